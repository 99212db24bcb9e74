/- The law TagGets: the walk by hand (its function value goes through a series' labels no further than it is told). -/
import Derived.Test.YtkclojakmhipnaaTagG
import Derived.Test.YtkclojakmhipnaaTagQ
import Derived.Test.YtkclojakmhipnaaAwk
namespace Go.Proofs.Ytkclojakmhipnaa.H
open Go.RowKit Go.Shelf Go.Proofs.Ytkclojakmhipnaa.PA Go.Proofs.Ytkclojakmhipnaa.PC Go.Proofs.YtkclojakmhipnaaW.PrintWords Go.Proofs.YtkclojakmhipnaaW.PrintLast Go.Proofs.YtkclojakmhipnaaW.PrintMore
attribute [local go_sem] Oper.semAt_some
set_option linter.unusedVariables false

/-- The function value's cells: all is well so far, so many labels seen, the most, the series. -/
structure Gets (w0 : World) (B : Nat) (m : ByteArray) (A : Option Addr) (c : Nat) (l : List S33) (most : Int) (S O N M : Nat) (k : Nat) (W : World) : Prop where
  ok : Boxed W O 4 (.bool true)
  n : Boxed W N 3 (.int .i64 k)
  mo : Boxed W M 3 (.int .i64 most)
  s : W.heap[S]? = some (.cells #[.string m, .slice A l.length c] 26 (0, 0))
  C : Kd.C k33 w0 A l.length l
  b : Below w0.heap.size w0 W
  sB : S < B
  b0 : w0.heap.size ≤ B
  bW : B ≤ W.heap.size
  d1 : O ≠ N
  d2 : O ≠ M
  d3 : N ≠ M
  bO : B ≤ O
  bN : B ≤ N

set_option maxRecDepth 100000 in
set_option maxHeartbeats 4000000 in
theorem gets1_calls {w0 : World} {B : Nat} {m : ByteArray} {A : Option Addr} {c : Nat} {l : List S33} {most : Int} {S O N M : Nat} (k : Nat) (W : World) (hk : k < l.length) (h : Gets w0 B m A c l most S O N M k W) :
    Calls Try.prog 19 #[.string l[k].f0, .string l[k].f1, .pointer (some ⟨O, 0, none⟩), .pointer (some ⟨N, 0, none⟩), .pointer (some ⟨S, 0, none⟩), .pointer (some ⟨M, 0, none⟩)] W fun e W' =>
      e = .returned (.bool (decide ((k : Int) + 1 < most))) ∧ Gets w0 B m A c l most S O N M (k + 1) W' ∧ W' = (W.setCell ⟨O, 0, none⟩ (.bool true)).setCell ⟨N, 0, none⟩ (.int .i64 ((k : Int) + 1)) := by
  obtain ⟨ad, rfl, hc0, hc1⟩ := at_T33 (Kd.C_below h.C h.b) (k : Int) (by omega) (by omega)
  rw [lab_at l k hk] at hc0 hc1
  simp only [Int.toNat_natCast] at hc0 hc1
  have hmax := h.C.2.1
  have huS := Try.underlying26
  have huL := Try.underlying33
  have hs0 : W.cell? ⟨S, 0, none⟩ = some (.string m) := by rw [Lib.cell_of_heap h.s]; rfl
  have hs1 : W.cell? ⟨S, 1, none⟩ = some (.slice (some ad) l.length c) := by rw [Lib.cell_of_heap h.s]; rfl
  have ho := h.ok.cell
  have hof := h.ok.frozen
  have hn := h.n.cell
  have hnf := h.n.frozen
  have hm := h.mo.cell
  have HG := Aside0.mk h
  have d1 := h.d1
  have d2 := h.d2
  have d3 := h.d3
  have d4 : S ≠ O := by have := h.sB; have := h.bO; omega
  have d5 : S ≠ N := by have := h.sB; have := h.bN; omega
  clear h
  obtain ⟨x, hx⟩ : ∃ x, l[k] = x := ⟨_, rfl⟩
  rw [hx] at hc0 hc1 ⊢
  have e0 : (x.f0.toList == x.f0.toList) = true := by simp
  have e1 : (x.f1.toList == x.f1.toList) = true := by simp
  have q1 : (0 : Int) ≤ (k : Int) := by omega
  have q2 : (k : Int) < (l.length : Int) := by omega
  clear hx
  go_enter Try.func19, Try.ntmps19
  go_wp2
  have G := HG.out
  have hbB : Below B W ((W.setCell ⟨O, 0, none⟩ (.bool true)).setCell ⟨N, 0, none⟩ (.int .i64 ((k : Int) + 1))) := ((Below.refl B W).setCell (p := ⟨O, 0, none⟩) (by simp only; exact G.bO) _).setCell (p := ⟨N, 0, none⟩) (by simp only; exact G.bN) _
  refine bodyPost_ret (v := .bool (decide ((k : Int) + 1 < most))) (by simp [results, Try.results19]) rfl ⟨rfl, ?_, rfl⟩
  exact { ok := (G.ok.set _).other d1 _
          n := (G.n.other (Ne.symm d1) _).set _
          mo := (G.mo.other (Ne.symm d2) _).other (Ne.symm d3) _
          s := (hbB.block S G.sB).trans G.s
          C := G.C
          b := G.b.trans (hbB.mono G.b0)
          sB := G.sB
          b0 := G.b0
          bW := Nat.le_trans G.bW hbB.size
          d1 := d1
          d2 := d2
          d3 := d3
          bO := G.bO
          bN := G.bN }

theorem Gets.alloc {w0 : World} {B : Nat} {m : ByteArray} {A : Option Addr} {c : Nat} {l : List S33} {most : Int} {S O N M k : Nat} {W : World} (G : Gets w0 B m A c l most S O N M k W) (o : Obj) : Gets w0 B m A c l most S O N M k (W.alloc o) :=
  have hb : Below B W (W.alloc o) := (Below.refl B W).alloc G.bW _
  { ok := G.ok.alloc _
    n := G.n.alloc _
    mo := G.mo.alloc _
    s := (hb.block S G.sB).trans G.s
    C := G.C
    b := G.b.trans (hb.mono G.b0)
    sB := G.sB
    b0 := G.b0
    bW := Nat.le_trans G.bW hb.size
    d1 := G.d1
    d2 := G.d2
    d3 := G.d3
    bO := G.bO
    bN := G.bN }

set_option maxRecDepth 100000 in
set_option maxHeartbeats 4000000 in
theorem all1_gets {w0 : World} {B : Nat} {m : ByteArray} {A : Option Addr} {c : Nat} {l : List S33} {most : Int} {S O N M Bs : Nat} (W : World) (h : Gets w0 B m A c l most S O N M 0 W)
    (hBs : W.heap[Bs]? = some (.cells #[.string m, .slice A l.length c] 26 (0, 0))) (hO : Bs ≠ O) (hN : Bs ≠ N) :
    Calls Try.prog 32 #[.func (.func 19) #[] #[.pointer (some ⟨O, 0, none⟩), .pointer (some ⟨N, 0, none⟩), .pointer (some ⟨S, 0, none⟩), .pointer (some ⟨M, 0, none⟩)], .pointer (some ⟨Bs, 0, none⟩)] W fun e W' =>
      (∃ v, e = .returned v) ∧ ∃ n : Nat, (n : Int) = min (l.length : Int) (max most 1) ∧ Gets w0 B m A c l most S O N M n W' := by
  have huL := Try.underlying33
  have huS := Try.underlying26
  have hB0 : W.cell? ⟨Bs, 0, none⟩ = some (.string m) := by rw [Lib.cell_of_heap hBs]; rfl
  have hB1 : W.cell? ⟨Bs, 1, none⟩ = some (.slice A l.length c) := by rw [Lib.cell_of_heap hBs]; rfl
  have hmax := h.C.2.1
  have HG := Aside0.mk h
  have HBs := Aside0.mk hBs
  clear h hBs
  go_enter Try.func32, Try.ntmps32
  go_wp2
  go_loopw [4, 8] (fun _ i wr => ∃ k : Nat, k ≤ l.length ∧ i = .int .i64 k ∧ (k = 0 ∨ (k : Int) < most) ∧ Gets w0 B m A c l most S O N M k wr ∧ wr.heap[Bs]? = some (.cells #[.string m, .slice A l.length c] 26 (0, 0)))
    (fun _ i _ => l.length - (intOf i).toNat)
  case atStart => exact ⟨0, Nat.zero_le _, rfl, .inl rfl, HG.out, HBs.out⟩
  case round =>
    obtain ⟨k, hk, rfl, hkm, hG, hBw⟩ := hrel
    have HKM := Aside0.mk hkm
    have HGW := Aside0.mk hG
    have HBW := Aside0.mk hBw
    clear hkm hBw
    by_cases hlt : k < l.length
    · obtain ⟨ad, rfl, hc0, hc1⟩ := at_T33 (Kd.C_below hG.C hG.b) (k : Int) (by omega) (by omega)
      rw [lab_at l k hlt] at hc0 hc1
      simp only [Int.toNat_natCast] at hc0 hc1
      have hbl : Bs < wr.heap.size := (Array.getElem?_eq_some_iff.1 HBW.out).1
      obtain ⟨W2, hW2⟩ : ∃ W2, wr.alloc (.cells #[.string l[k].f0, .string l[k].f1] 33) = W2 := ⟨_, rfl⟩
      have G2 := Aside0.mk (show Gets w0 B m (some ad) c l most S O N M k W2 by rw [← hW2]; exact hG.alloc _)
      have HB2 := Aside0.mk (show W2.heap[Bs]? = some (.cells #[.string m, .slice (some ad) l.length c] 26 (0, 0)) by rw [← hW2]; exact (Below.heap_alloc _ _ _ hbl).trans HBW.out)
      have hcall := gets1_calls k W2 hlt G2.out
      have HW2 := Aside0.mk hW2
      clear hG hW2
      by_cases hgo : (k : Int) + 1 < most
      · rw [decide_eq_true hgo] at hcall
        have HC3 := Aside0.mk hcall
        clear hcall
        go_wp2_with (go_at_call 19; rw [HW2.out]; refine HC3.out.mono ?_; rintro e w' ⟨rfl, hg, hw'⟩; have HG3 := Aside0.mk hg; have HWW := Aside0.mk hw'; clear hg hw')
        go_roundw
        case rel =>
          refine ⟨k + 1, by omega, by simp, .inr (by omega), HG3.out, ?_⟩
          rw [HWW.out]
          have hb2 : Bs < W2.heap.size := (Array.getElem?_eq_some_iff.1 HB2.out).1
          exact ((grownBy_setCell' _ N _).block Bs (by simpa using hb2) (fun e => hN (by cases e; rfl))).trans (((grownBy_setCell' W2 O _).block Bs hb2 (fun e => hO (by cases e; rfl))).trans HB2.out)
        case measure => simp [intOf]; omega
      · rw [decide_eq_false hgo] at hcall
        have HC3 := Aside0.mk hcall
        clear hcall
        go_wp2_with (go_at_call 19; rw [HW2.out]; refine HC3.out.mono ?_; rintro e w' ⟨rfl, hg, hw'⟩; have HG3 := Aside0.mk hg; have HWW := Aside0.mk hw'; clear hg hw')
        refine bodyPost_ret (results_none rfl _ _ _) rfl ?_
        refine ⟨⟨_, rfl⟩, k + 1, ?_, HG3.out⟩
        have := HKM.out
        omega
    · obtain rfl : k = l.length := by omega
      clear hG
      go_wp2
      go_end0
      refine ⟨⟨_, rfl⟩, l.length, ?_, HGW.out⟩
      have := HKM.out
      omega

/-- The law's own loop: the value of the last label that bears a name. -/
def wantR (l : List S33) (name : ByteArray) (a : ByteArray × Int) : ByteArray × Int := l.foldl (fun a x => if hasName name x = true then (x.f1, 0) else a) a

theorem uniq_want (name : ByteArray) : ∀ (l : List S33), (l.map nameL).Nodup → getR l name = wantR l name (⟨#[]⟩, 5) := by
  have key : ∀ (l : List S33) a, (∀ x ∈ l, hasName name x = false) → wantR l name a = a := by
    intro l
    induction l with
    | nil => intro a _; rfl
    | cons x l ih =>
      intro a h
      unfold wantR at ih ⊢
      rw [List.foldl_cons, if_neg (by rw [h x (by simp)]; decide), ih _ (fun y hy => h y (by simp [hy]))]
  intro l
  induction l with
  | nil => intro _; rfl
  | cons x l ih =>
    intro h
    rw [List.map_cons, List.nodup_cons] at h
    unfold getR wantR
    rw [List.find?_cons, List.foldl_cons]
    by_cases hx : hasName name x = true
    · rw [hx, if_pos rfl]
      have := key l (x.f1, 0) (fun y hy => by
        by_cases hy' : hasName name y = true
        · exfalso
          apply h.1
          unfold hasName at hx hy'
          have e : nameL x = nameL y := (beq_iff_eq.1 hx).trans (beq_iff_eq.1 hy').symm
          rw [e]
          exact List.mem_map.2 ⟨y, hy, rfl⟩
        · exact Bool.eq_false_iff.2 hy')
      exact this.symm
    · rw [Bool.eq_false_iff.2 hx, if_neg (by decide)]
      exact ih h.2
theorem asc_pair : ∀ (p : S33) (l : List S33), ascF p l = true → ∀ x ∈ l, ltName p x = true
  | p, [], _, x, hx => by cases hx
  | p, y :: l, h, x, hx => by
    simp only [ascF, Bool.and_eq_true] at h
    rcases List.mem_cons.1 hx with rfl | hx
    · exact h.1
    · exact swo_name.trans _ _ _ h.1 (asc_pair y l h.2 x hx)
theorem ascF_nodup : ∀ (p : S33) (l : List S33), ascF p l = true → ((p :: l).map nameL).Nodup
  | p, [], _ => by simp
  | p, y :: l, h => by
    have h2 := ascF_nodup y l (by simp only [ascF, Bool.and_eq_true] at h; exact h.2)
    rw [List.map_cons, List.nodup_cons]
    refine ⟨fun hm => ?_, h2⟩
    obtain ⟨x, hx, e⟩ := List.mem_map.1 hm
    have h1 := asc_pair p (y :: l) h x hx
    unfold ltName at h1
    unfold nameL at e
    rw [e] at h1
    have h3 := swo_name.irrefl p
    unfold ltName at h3
    rw [h3] at h1
    cases h1
theorem good_nodup {m : ByteArray} {l : List S33} (h : goodB m l = true) : (l.map nameL).Nodup := by
  simp only [goodB, Bool.and_eq_true] at h
  cases l with
  | nil => simp
  | cons p l => exact ascF_nodup p l h.1.2
end Go.Proofs.Ytkclojakmhipnaa.H
