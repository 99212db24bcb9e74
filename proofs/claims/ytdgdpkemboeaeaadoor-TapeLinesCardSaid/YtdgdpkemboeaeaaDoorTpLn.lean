/- The law TapeLines: its function value, called by the iterator. -/
import Derived.Test.YtdgdpkemboeaeaaDoorTpZ
import Derived.Test.YtdgdpkemboeaeaaDoorTpA
import Derived.Test.YtdgdpkemboeaeaaDoorTpSm
namespace Go.Proofs.YtdgdpkemboeaeaaDoor.H
open Go.RowKit Go.Shelf Go.Proofs.YtdgdpkemboeaeaaDoor.PT Go.Proofs.YtdgdpkemboeaeaaDoor.PU Go.Proofs.YtdgdpkemboeaeaaDoorW.PrintWords Go.Proofs.YtdgdpkemboeaeaaDoorW.PrintLast Go.Proofs.YtdgdpkemboeaeaaDoorW.PrintMore
set_option linter.unusedVariables false
set_option linter.unusedSimpArgs false
def awS : ByteArray := ⟨#[98, 101, 97, 116, 32, 49, 32, 51, 10, 98, 97, 116, 99, 104, 32, 53, 32, 97, 58, 49, 124, 99, 124, 84, 49, 124, 83, 120, 46, 49, 37, 48, 97, 10]⟩
def awT : ByteArray := ⟨#[97, 58, 49, 124, 99, 124, 84, 49, 124, 83, 120, 46, 49, 10]⟩
def aw1 : PAct := ⟨3, 1, 3, ⟨#[]⟩, []⟩
def aw2 : PAct := ⟨1, 0, 5, awT, []⟩
theorem itoa_small (u : Nat) (h : u < 10) : Lib.itoa (u : Int) = [UInt8.ofNat (48 + u)] := by rw [Lib.itoa_nonneg, dec_small h]
theorem aw_line1 : lineP aw1 = [98, 101, 97, 116, 32, 49, 32, 51] := by
  have h1 : Lib.itoa 1 = [49] := itoa_small 1 (by decide)
  have h3 : Lib.itoa 3 = [51] := itoa_small 3 (by decide)
  show joinC 32 (shW 3 :: (([Lib.itoa 1] ++ [Lib.itoa 3]) ++ [] ++ [])) = _
  rw [h1, h3]
  decide +kernel
theorem aw_line2 : lineP aw2 = [98, 97, 116, 99, 104, 32, 53, 32, 97, 58, 49, 124, 99, 124, 84, 49, 124, 83, 120, 46, 49, 37, 48, 97] := by
  have h5 : Lib.itoa 5 = [53] := itoa_small 5 (by decide)
  show joinC 32 (shW 1 :: (([] ++ [Lib.itoa 5]) ++ [showL awT.data.toList] ++ [])) = _
  rw [h5]
  decide +kernel
theorem aw_parse : parseR awS.data.toList = ([aw1, aw2], 0, 0) := by
  have hg : ∀ a ∈ [aw1, aw2], goodP a = true := by
    intro a ha
    simp only [List.mem_cons, List.not_mem_nil, or_false] at ha
    rcases ha with rfl | rfl <;> decide +kernel
  have hp := parse_print [aw1, aw2] hg
  have e : printL [aw1, aw2] = awS.data.toList := by
    show (lineP aw1 ++ [10]) ++ ((lineP aw2 ++ [10]) ++ []) = _
    rw [aw_line1, aw_line2]
    rfl
  rw [e] at hp
  unfold parseR
  rw [hp]
  rfl
set_option maxRecDepth 100000 in
set_option maxHeartbeats 4000000 in
theorem awake_calls (w : World) (hE : Env w) : Calls Tryd.prog 25 #[] w fun e w' => e = .returned (.bool true) ∧ Below w.heap.size w w' := by
  have hp := fun W (hW : Env W) => parse_calls awS (by decide) W hW
  rw [aw_parse] at hp
  go_enter Tryd.func25, Tryd.ntmps25
  go_upto_region 2 with (go_at_call 40; refine (hp _ hE).mono ?_; rintro e w1 ⟨v, rfl, hR, hb⟩; obtain ⟨A, c, rfl, hl, hC⟩ := Kd.R_reads hR; have HB := Aside0.mk hb; have HC := Aside0.mk hC; clear hR hb hC)
  obtain ⟨ad, A0, c0, rfl, k0, k1, k2, k3, k4, _⟩ := at_T45 HC.out 0 (by omega) (by decide)
  obtain ⟨ad', A1, c1, e, l0, l1, l2, l3, l4, _⟩ := at_T45 HC.out 1 (by omega) (by decide)
  obtain rfl := Option.some.inj e
  clear hl
  simp only [rd_T45, List.map_cons, List.map_nil, s45, aw1, aw2, Int.toNat_zero, List.getD_cons_zero, List.getD_cons_succ, Int.toNat_one] at k0 k1 k2 l2 l3
  have z0 : ad.add (0 * 5) = ad := by unfold Addr.add; simp
  have z1 : ad.add (1 * 5) = ⟨ad.block, ad.off + 5, none⟩ := by unfold Addr.add; simp
  simp only [z0] at k0 k1 k2
  simp only [z1, awT] at l2 l3
  clear k3 k4 l0 l1 l4 e z0 z1
  go_wp2
  refine bodyPost_ret (v := .bool true) (by simp [results, Tryd.results25, go_sem]) rfl ⟨rfl, HB.out⟩
end Go.Proofs.YtdgdpkemboeaeaaDoor.H
namespace Go.Proofs.YtdgdpkemboeaeaaDoor.H
open Go.RowKit Go.Shelf Go.Proofs.YtdgdpkemboeaeaaDoor.PT Go.Proofs.YtdgdpkemboeaeaaDoor.PR Go.Proofs.YtdgdpkemboeaeaaDoorW.PrintWords Go.Proofs.YtdgdpkemboeaeaaDoorW.PrintLast Go.Proofs.YtdgdpkemboeaeaaDoorW.PrintMore
set_option linter.unusedVariables false
set_option linter.unusedSimpArgs false
/-- The function value's cells: all is well so far, so many acts seen, the most, has it ended, what is left of the text. -/
structure LSt (w0 : World) (B M : Nat) (x : List UInt8) (k : Nat) (en : Bool) (W : World) : Prop where
  b : Below w0.heap.size w0 W
  b0 : w0.heap.size ≤ B
  n : W.heap[B]? = some (.cells #[.int .i64 (k : Int)] 3 (0, 0))
  m : W.heap[B + 1]? = some (.cells #[.int .i64 (M : Int)] 3 (0, 0))
  ok : W.heap[B + 2]? = some (.cells #[.bool true] 4 (0, 0))
  en : W.heap[B + 3]? = some (.cells #[.bool en] 4 (0, 0))
  rest : W.heap[B + 4]? = some (.cells #[.string (ba x)] 9 (0, 0))
theorem LSt.below {w0 : World} {B M : Nat} {x : List UInt8} {k : Nat} {en : Bool} {W W' : World} (h : LSt w0 B M x k en W) (hb : Below W.heap.size W W') : LSt w0 B M x k en W' :=
  ⟨h.b.trans (hb.mono h.b.size), h.b0, blk_below h.n hb, blk_below h.m hb, blk_below h.ok hb, blk_below h.en hb, blk_below h.rest hb⟩
theorem refAct1_good {l : List UInt8} {a : PAct} (hl : l.length ≤ 100000) (h : actA l = some a) : tidemillref26_Act1.f 2200000 (ba l) = some (a.k, a.i, a.n, a.t, a.keep, true) := by
  obtain ⟨⟨r1, r2, r3, r4, r5, r6⟩, hr, hok, hno⟩ := refAct1_f l hl 2200000 (by decide)
  cases r6 with
  | true =>
    have := hok rfl
    rw [h] at this
    obtain rfl := Option.some.inj this
    exact hr
  | false =>
    have := hno rfl
    rw [h] at this
    cases this
theorem C45_one {W : World} {g c4 : Nat} {A4 : Option Addr} {x : S45} (h : W.heap[g]? = some (.cells #[.int .i64 x.f0, .int .i64 x.f1, .int .i64 x.f2, .string x.f3, .slice A4 x.f4.length c4] 45 (0, 0))) (l4 : x.f4.length ≤ c4) (hC : (Kd.int .i64).C W A4 x.f4.length x.f4) :
    Kd.C k45 W (some ⟨g, 0, none⟩) [x].length [x] := by
  refine ⟨rfl, by simp, fun _ => ⟨_, rfl, fun j p hj => ?_⟩⟩
  cases j with
  | succ j => simp at hj
  | zero =>
    obtain rfl : x = p := by simpa using hj
    refine ⟨_, rfl, k45_mk W x l4 hC, fun i u hi => ?_⟩
    have hb := blk_cell h i
    have : (⟨g, 0, none⟩ : Addr).add (0 * k45.sz + i) = ⟨g, i, none⟩ := by unfold Addr.add; split <;> simp_all
    rw [this, hb]
    simpa using hi
theorem C46_one {W : World} {g c4 : Nat} {A4 : Option Addr} {x : S46} (h : W.heap[g]? = some (.cells #[.int .i64 x.f0, .int .i64 x.f1, .int .i64 x.f2, .string x.f3, .slice A4 x.f4.length c4] 46 (0, 0))) (l4 : x.f4.length ≤ c4) (hC : (Kd.int .i64).C W A4 x.f4.length x.f4) :
    Kd.C k46 W (some ⟨g, 0, none⟩) [x].length [x] := by
  refine ⟨rfl, by simp, fun _ => ⟨_, rfl, fun j p hj => ?_⟩⟩
  cases j with
  | succ j => simp at hj
  | zero =>
    obtain rfl : x = p := by simpa using hj
    refine ⟨_, rfl, k46_mk W x l4 hC, fun i u hi => ?_⟩
    have hb := blk_cell h i
    have : (⟨g, 0, none⟩ : Addr).add (0 * k46.sz + i) = ⟨g, i, none⟩ := by unfold Addr.add; split <;> simp_all
    rw [this, hb]
    simpa using hi
theorem LSt.set {w0 W : World} {B M : Nat} {x x' : List UInt8} {k k' : Nat} {en en' : Bool} (h : LSt w0 B M x k en W) (i : Nat) (u : Value)
    (hn : (#[if i = 0 then u else .int .i64 (k : Int)] : Array Value) = #[.int .i64 (k' : Int)]) (hm : i ≠ 1) (ho : i = 2 → u = .bool true) (he : (#[if i = 3 then u else .bool en] : Array Value) = #[.bool en']) (hr : (#[if i = 4 then u else .string (ba x)] : Array Value) = #[.string (ba x')]) :
    LSt w0 B M x' k' en' (W.setCell ⟨B + i, 0, none⟩ u) := by
  refine ⟨h.b.setCell (p := ⟨B + i, 0, none⟩) (Nat.le_trans h.b0 (Nat.le_add_right _ _)) _, h.b0, ?_, ?_, ?_, ?_, ?_⟩
  · rw [← hn]
    by_cases hi : i = 0
    · subst hi; exact blk_set h.n 0 u
    · rw [if_neg hi]; exact blk_far h.n (by simp only; omega) u
  · exact blk_far h.m (by simp only; omega) u
  · by_cases hi : i = 2
    · subst hi; rw [ho rfl]; exact blk_set h.ok 0 _
    · exact blk_far h.ok (by simp only; omega) u
  · rw [← he]
    by_cases hi : i = 3
    · subst hi; exact blk_set h.en 0 u
    · rw [if_neg hi]; exact blk_far h.en (by simp only; omega) u
  · rw [← hr]
    by_cases hi : i = 4
    · subst hi; exact blk_set h.rest 0 u
    · rw [if_neg hi]; exact blk_far h.rest (by simp only; omega) u
theorem LSt.lt {w0 W : World} {B M : Nat} {x : List UInt8} {k : Nat} {en : Bool} (h : LSt w0 B M x k en W) : B + 4 < W.heap.size := blk_lt h.rest
abbrev capsL (B : Nat) : Array Value := #[.pointer (some ⟨B + 4, 0, none⟩), .pointer (some ⟨B + 2, 0, none⟩), .pointer (some ⟨B + 3, 0, none⟩), .pointer (some ⟨B, 0, none⟩), .pointer (some ⟨B + 1, 0, none⟩)]
set_option maxRecDepth 100000 in
set_option maxHeartbeats 8000000 in
theorem tl1_good {w0 W : World} {B M k n₀ : Nat} {x : List UInt8} {a : PAct} {v : Value} (hx : x.length ≤ 3000) (hc : (cutL x 10).2.2 = true) (ha : actA (cutL x 10).1 = some a) (hk : k ≤ 1000000) (h : LSt w0 B M x k false W) (hR : ElRel n₀ (a, v, 0) W) :
    Calls Tryd.prog 27 (#[actV a v, .int .i64 0] ++ capsL B) W fun e W' => e = .returned (.bool (decide ((k : Int) + 1 < (M : Int)))) ∧ LSt w0 B M (cutL x 10).2.1 (k + 1) false W' := by
  obtain ⟨p1, _, p3⟩ := cutL_parts x 10
  replace p1 := p1 hc
  have hR2 : Kd.R (Kd.int .i64) 3 W n₀ (fun _ => True) v a.keep := hR
  obtain ⟨A, c, rfl, hl, hC⟩ := Kd.R_reads hR2
  have hact := refAct1_good (by have := (cut_len x).1; omega) ha
  generalize (cutL x 10).1 = one at p1 p3 hact
  generalize (cutL x 10).2.1 = beh at p1
  clear hc ha hR
  subst p1
  have hsz : (ba (one ++ 10 :: beh)).size = one.length + (beh.length + 1) := by rw [ba_size, List.length_append, List.length_cons]
  have hex1 : (ba (one ++ 10 :: beh)).extract 0 one.length = ba one := by rw [ex_left, ba_data, List.take_left]
  have hex2 : (ba (one ++ 10 :: beh)).extract (one.length + 1) (one.length + (beh.length + 1)) = ba beh := by rw [← hsz, ex_right, ba_data, drop_mid]
  have hat : ∀ (j : Nat) (hj : j < (ba (one ++ 10 :: beh)).size), j < one.length → (ba (one ++ 10 :: beh))[j] ≠ 10 := by
    intro j hj hj2 he
    have : (one ++ 10 :: beh)[j]'(by rw [← ba_size]; exact hj) = 10 := he
    rw [List.getElem_append_left hj2] at this
    exact p3 (this ▸ List.getElem_mem hj2)
  have hat2 : ∀ (hj : one.length < (ba (one ++ 10 :: beh)).size), (ba (one ++ 10 :: beh))[one.length] = 10 := by
    intro hj
    show (one ++ 10 :: beh)[one.length]'(by rw [← ba_size]; exact hj) = 10
    simp
  rw [List.length_append, List.length_cons] at hx
  have hrest := h.rest
  have HL := Aside0.mk h
  have hn := h.n
  have hm := h.m
  have hok := h.ok
  have hen := h.en
  clear h
  generalize hX : ba (one ++ 10 :: beh) = X at hsz hex1 hex2 hat hat2 hrest
  have HX := Aside0.mk hX
  clear hX
  obtain ⟨W1, hW1⟩ : ∃ W1, W.alloc (.cells #[.int .i64 a.k, .int .i64 a.i, .int .i64 a.n, .string a.t, .slice A a.keep.length c] 45) = W1 := ⟨_, rfl⟩
  have hbox : W1.heap[W.heap.size]? = some (.cells #[.int .i64 a.k, .int .i64 a.i, .int .i64 a.n, .string a.t, .slice A a.keep.length c] 45 (0, 0)) := by rw [← hW1]; exact blk_new _ _
  have hb1 : Below W.heap.size W W1 := by rw [← hW1]; exact (Below.refl _ W).alloc (Nat.le_refl _) _
  have r0 := blk_cell (blk_below hrest hb1) 0
  have HAT := Aside0.mk hat
  have HAT2 := Aside0.mk hat2
  have HB1 := Aside0.mk hb1
  have HBX := Aside0.mk hbox
  have HCC := Aside0.mk hR2
  have HEX1 := Aside0.mk hex1
  have HEX2 := Aside0.mk hex2
  have HA1 := Aside0.mk hact
  have HW1 := Aside0.mk hW1
  clear hat hat2 hb1 hbox hC hR2 hex1 hex2 hact
  simp only [actV]
  go_enter Tryd.func27, Tryd.ntmps27
  go_wp2
  try rw [hW1]
  clear hW1
  go_loopw [10] (fun v wr => ∃ j : Nat, j ≤ one.length ∧ v = .int .i64 j ∧ wr = W1) (fun v _ => one.length - (intOf v).toNat)
  case atStart => exact ⟨0, Nat.zero_le _, rfl, rfl⟩
  case round =>
    obtain ⟨j, hj, rfl, rfl⟩ := hrel
    by_cases hlt : j < one.length
    · have hlx : j < X.size := by omega
      have hne := HAT.out j hlx hlt
      obtain ⟨ch, hch⟩ : ∃ ch, X[j]'hlx = ch := ⟨_, rfl⟩
      rw [hch] at hne
      have hnb : (((ch.toNat : Int)) == 10) = false := by
        rw [beq_eq_false_iff_ne]
        intro h2
        exact hne (UInt8.toNat_inj.1 (by have : (10 : UInt8).toNat = 10 := rfl; omega))
      clear hne
      go_wp2
      go_roundw
      case rel => exact ⟨j + 1, by omega, by simp, by first | rfl | trivial⟩
      case measure => simp [intOf]; omega
    · obtain rfl : j = one.length := by omega
      have hlx : one.length < X.size := by omega
      have hch := HAT2.out hlx
      have hx1 := HEX1.out
      have hx2 := HEX2.out
      go_upto_region 5 with (go_at_call 28; refine (tidemillref26_Act1.calls _ _ _ _ _ _ _ _ _ HA1.out).mono ?_; rintro e w3 ⟨v4, rfl, hr, hb⟩; obtain ⟨B4, d, rfl, hd, hD⟩ := Kd.R_reads hr; have HD := Aside0.mk hr; have HB3 := Aside0.mk hb; clear hr hD hb)
      generalize hW4 : w3.alloc (.cells #[.int .i64 a.k, .int .i64 a.i, .int .i64 a.n, .string a.t, .slice B4 a.keep.length d] 46) = W4
      have hb4 : Below w3.heap.size w3 W4 := by rw [← hW4]; exact (Below.refl _ _).alloc (Nat.le_refl _) _
      have H4 := Aside0.mk ((HL.out.below HB1.out).below (HB3.out.trans (hb4.mono HB3.out.size)))
      have X7 := Aside0.mk (blk_below (blk_below HBX.out HB3.out) hb4)
      have X11 := Aside0.mk (show W4.heap[w3.heap.size]? = some (.cells #[.int .i64 a.k, .int .i64 a.i, .int .i64 a.n, .string a.t, .slice B4 a.keep.length d] 46 (0, 0)) by rw [← hW4]; exact blk_new _ _)
      have HC4 := Aside0.mk (Kd.R_below (Kd.R_below (Kd.R_below HCC.out HB1.out) HB3.out) hb4)
      have HD4 := Aside0.mk (Kd.R_below HD.out hb4)
      clear hW4 hb4 r0 hn hm hok hen hrest
      have c2 := blk_cell H4.out.ok 0
      have c3 := blk_cell H4.out.en 0
      have c4 : W4.cell? ⟨B + 4, 0, none⟩ = some (.string X) := by rw [← HX.out]; exact blk_cell H4.out.rest 0
      have f2 := blk_frozen H4.out.ok 0
      go_upto_region 7 with (fail)
      have H5 := Aside0.mk (H4.out.set 2 (.bool true) rfl (by decide) (fun _ => rfl) rfl rfl)
      have l7 := HL.out.lt
      have l11 : W.heap.size ≤ w3.heap.size := Nat.le_trans HB1.out.size HB3.out.size
      have X57 := Aside0.mk (blk_far X7.out (p := ⟨B + 2, 0, none⟩) (by simp only; omega) (.bool true))
      have X511 := Aside0.mk (blk_far X11.out (p := ⟨B + 2, 0, none⟩) (by simp only; omega) (.bool true))
      have HC5 := Aside0.mk (Kd.R_reads' (Kd.R_set HC4.out H4.out.ok (by decide) 0 (.bool true))).2.2
      have HD5 := Aside0.mk (Kd.R_reads' (Kd.R_set HD4.out H4.out.ok (by decide) 0 (.bool true))).2.2
      clear c2 c3 c4 f2 X7 X11
      generalize W4.setCell ⟨B + 2, 0, none⟩ (.bool true) = W5 at H5 X57 X511 HC5 HD5 ⊢
      have c2 := blk_cell H5.out.ok 0
      go_upto_region 8 with (fail)
      have b0 := blk_cell X57.out 0
      have b1 := blk_cell X57.out 1
      have b2 := blk_cell X57.out 2
      have b3 := blk_cell X57.out 3
      have b4 := blk_cell X57.out 4
      have l5 := blk_lt X511.out
      have hu45 := Tryd.underlying45
      have hu46 := Tryd.underlying46
      have hu50 := Tryd.underlying50
      have hu51 := Tryd.underlying51
      have X611 := blk_alloc X511.out (.cells #[.int .i64 a.k, .int .i64 a.i, .int .i64 a.n, .string a.t, .slice A a.keep.length c] 45)
      have e0 := blk_cell X611 0
      have e1 := blk_cell X611 1
      have e2 := blk_cell X611 2
      have e3 := blk_cell X611 3
      have e4 := blk_cell X611 4
      obtain ⟨W7, hW7⟩ : ∃ W7, (W5.alloc (.cells #[.int .i64 a.k, .int .i64 a.i, .int .i64 a.n, .string a.t, .slice A a.keep.length c] 45)).alloc (.cells #[.int .i64 a.k, .int .i64 a.i, .int .i64 a.n, .string a.t, .slice B4 a.keep.length d] 46) = W7 := ⟨_, rfl⟩
      have hb7 : Below W5.heap.size W5 W7 := by rw [← hW7]; exact ((Below.refl _ _).alloc (Nat.le_refl _) _).alloc (by simp) _
      have n1 : W7.heap[W5.heap.size]? = some (.cells #[.int .i64 a.k, .int .i64 a.i, .int .i64 a.n, .string a.t, .slice A a.keep.length c] 45 (0, 0)) := by rw [← hW7]; exact blk_alloc (blk_new _ _) _
      have n2 : W7.heap[W5.heap.size + 1]? = some (.cells #[.int .i64 a.k, .int .i64 a.i, .int .i64 a.n, .string a.t, .slice B4 a.keep.length d] 46 (0, 0)) := by rw [← hW7]; have := blk_new (W5.alloc (.cells #[.int .i64 a.k, .int .i64 a.i, .int .i64 a.n, .string a.t, .slice A a.keep.length c] 45)) (.cells #[.int .i64 a.k, .int .i64 a.i, .int .i64 a.n, .string a.t, .slice B4 a.keep.length d] 46); rwa [World.size_alloc] at this
      have hsm : Calls Tryd.prog 29 #[.slice (some ⟨W5.heap.size, 0, none⟩) 1 1, .slice (some ⟨W5.heap.size + 1, 0, none⟩) 1 1] W7 (fun e w' => e = .returned (.bool true) ∧ Below W7.heap.size W7 w') := same_calls (some ⟨W5.heap.size, 0, none⟩) (some ⟨W5.heap.size + 1, 0, none⟩) 1 1 [s45 a] [s46 a] rfl W7 (C45_one (x := s45 a) n1 hl (Kd.C_below HC5.out hb7)) (C46_one (x := s46 a) n2 hd (Kd.C_below HD5.out hb7))
      have HSM := Aside0.mk hsm
      have HW7 := Aside0.mk hW7
      have H7 := Aside0.mk (H5.out.below hb7)
      clear hsm hb7 n1 n2 X611
      go_upto_region 9 with (go_at_call 29; refine (show Calls _ _ _ _ _ from HSM.out).mono ?_; rintro e w8 ⟨rfl, hb⟩; have H8 := Aside0.mk (H7.out.below hb); have f8 := blk_frozen H8.out.ok 0; have c8 := blk_cell H8.out.ok 0; clear hb e0 e1 e2 e3 e4 b0 b1 b2 b3 b4 hW7 c2 hu45 hu46 hu50 hu51 hch hx1 hx2 HSM HW7)
      have H9 := Aside0.mk (H8.out.set 2 (.bool true) rfl (by decide) (fun _ => rfl) rfl rfl)
      clear f8 c8 H7 H5 HC5 HD5 X57 X511
      generalize w8.setCell ⟨B + 2, 0, none⟩ (.bool true) = W9 at H9 ⊢
      have c4 : W9.cell? ⟨B + 4, 0, none⟩ = some (.string X) := by rw [← HX.out]; exact blk_cell H9.out.rest 0
      have f4 := blk_frozen H9.out.rest 0
      have hx2 := HEX2.out
      have i1 : (0 : Int) ≤ (one.length : Int) + 1 := by omega
      have i2 : (one.length : Int) + 1 ≤ (one.length : Int) + ((beh.length : Int) + 1) := by omega
      go_upto_region 10 with (fail)
      have H10 := Aside0.mk (H9.out.set (x' := beh) 4 (.string (ba beh)) rfl (by decide) (fun h => by cases h) rfl rfl)
      clear f4 c4
      generalize W9.setCell ⟨B + 4, 0, none⟩ (.string (ba beh)) = W10 at H10 ⊢
      have f3 := blk_frozen H10.out.en 0
      have c3 := blk_cell H10.out.en 0
      go_upto_region 11 with (fail)
      have H11 := Aside0.mk (H10.out.set (en' := false) 3 (.bool false) rfl (by decide) (fun h => by cases h) rfl rfl)
      clear f3 c3
      generalize W10.setCell ⟨B + 3, 0, none⟩ (.bool false) = W11 at H11 ⊢
      have f0 := blk_frozen H11.out.n 0
      have c0 := blk_cell H11.out.n 0
      go_upto_region 12 with (fail)
      have H12 := Aside0.mk (show LSt w0 B M beh (k + 1) false (W11.setCell ⟨B, 0, none⟩ (.int .i64 ((k : Int) + 1))) from H11.out.set (k' := k + 1) 0 (.int .i64 ((k : Int) + 1)) rfl (by decide) (fun h => by cases h) rfl rfl)
      clear f0 c0
      generalize W11.setCell ⟨B, 0, none⟩ (.int .i64 ((k : Int) + 1)) = W12 at H12 ⊢
      have c0 := blk_cell H12.out.n 0
      have c1 := blk_cell H12.out.m 0
      have c2 := blk_cell H12.out.ok 0
      go_wp2
      exact bodyPost_ret (v := .bool (decide ((k : Int) + 1 < (M : Int)))) (by simp [results, Tryd.results27, go_sem]) rfl ⟨rfl, H12.out⟩
end Go.Proofs.YtdgdpkemboeaeaaDoor.H

