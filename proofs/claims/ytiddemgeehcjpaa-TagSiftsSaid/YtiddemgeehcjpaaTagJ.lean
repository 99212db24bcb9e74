/- tag.sifted: the labels whose names are among some, or aren't. -/
import Derived.Test.YtiddemgeehcjpaaTagI
import Derived.Test.YtiddemgeehcjpaaTagT
import Derived.Test.YtiddemgeehcjpaaTagK
import Derived.Sort.QuietTacIn
import Derived.Test.YtiddemgeehcjpaaRnd
namespace Go.Proofs.Ytiddemgeehcjpaa.H
open Go.RowKit Go.Shelf Go.Proofs.Ytiddemgeehcjpaa.PA Go.Proofs.YtiddemgeehcjpaaW.PrintWords Go.Proofs.YtiddemgeehcjpaaW.PrintLast Go.Proofs.YtiddemgeehcjpaaW.PrintMore
attribute [local go_sem] Oper.semAt_some
set_option linter.unusedVariables false
/-- A block of two cells. -/
def TwoB (W : World) (B T : Nat) (a v : Value) : Prop := W.heap[B]? = some (.cells #[a, v] T (0, 0))
theorem TwoB.lt {W : World} {B T : Nat} {a v : Value} (h : TwoB W B T a v) : B < W.heap.size := (Array.getElem?_eq_some_iff.1 h).1
theorem TwoB.kept {W W' : World} {row : Option Nat} {B T : Nat} {a v : Value} (h : TwoB W B T a v) (hg : W.grownBy W' row) (hne : some B ≠ row) : TwoB W' B T a v := (hg.block B h.lt hne).trans h
theorem TwoB.alloc {W : World} {B T : Nat} {a v : Value} (h : TwoB W B T a v) (o : Obj) : TwoB (W.alloc o) B T a v := h.kept (World.grownBy_alloc W o none) (by simp)
theorem TwoB.cell0 {W : World} {B T : Nat} {a v : Value} (h : TwoB W B T a v) : W.cell? ⟨B, 0, none⟩ = some a := by rw [Lib.cell_of_heap h]; rfl
theorem TwoB.cell1 {W : World} {B T : Nat} {a v : Value} (h : TwoB W B T a v) : W.cell? ⟨B, 1, none⟩ = some v := by rw [Lib.cell_of_heap h]; rfl
theorem TwoB.fr0 {W : World} {B T : Nat} {a v : Value} (h : TwoB W B T a v) : W.frozen? ⟨B, 0, none⟩ = false := by simp [World.frozen?, show W.heap[B]? = _ from h]
theorem TwoB.fr1 {W : World} {B T : Nat} {a v : Value} (h : TwoB W B T a v) : W.frozen? ⟨B, 1, none⟩ = false := by simp [World.frozen?, show W.heap[B]? = _ from h]
theorem TwoB.set1 {W : World} {B T : Nat} {a v : Value} (v' : Value) (h : TwoB W B T a v) : TwoB (W.setCell ⟨B, 1, none⟩ v') B T a v' := by
  obtain ⟨hlt, hk⟩ := Array.getElem?_eq_some_iff.1 h
  show (W.heap.modify B _)[B]? = _
  rw [Array.getElem?_eq_getElem (by rw [Array.size_modify]; exact hlt), Array.getElem_modify_self, hk]
  rfl
theorem TwoB.set0 {W : World} {B T : Nat} {a v : Value} (a' : Value) (h : TwoB W B T a v) : TwoB (W.setCell ⟨B, 0, none⟩ a') B T a' v := by
  obtain ⟨hlt, hk⟩ := Array.getElem?_eq_some_iff.1 h
  show (W.heap.modify B _)[B]? = _
  rw [Array.getElem?_eq_getElem (by rw [Array.size_modify]; exact hlt), Array.getElem_modify_self, hk]
  rfl
theorem grown_set1 (W : World) (b : Nat) (v : Value) : W.grownBy (W.setCell ⟨b, 1, none⟩ v) (some b) :=
  ⟨rfl, rfl, rfl, (KeepsWalks.setCell W _ v).size, fun k _ hk => Below.heap_setCell _ _ _ k (fun e => hk (by rw [e]))⟩
theorem TwoB.not_row {W : World} {B T e : TypeId} {a u : Value} (h : TwoB W B T a u) (hte : T ≠ e) {base size k : Nat} {v : Value} {xs : List Value} (hr : W.ownsRow base e size v k xs) : some B ≠ v.ownBlock := by
  rcases hr.2 with ⟨rfl, _⟩ | ⟨g, cap, cur, rfl, _, hgb, _⟩
  · simp [Value.ownBlock]
  · intro e'
    obtain rfl : B = g := by simpa [Value.ownBlock] using e'
    rw [show W.heap[B]? = _ from h] at hgb
    cases hgb
    exact hte rfl
theorem TwoB.appended {W w1 : World} {n₀ B : Nat} {T e : TypeId} {size : Nat} {a v v' : Value} {k m : Nat} {xs ys : List Value} {tmp : Obj}
    (hv : TwoB W B T a v) (hte : T ≠ e) (hrow : W.ownsRow n₀ e size v k xs) (hn₀ : n₀ ≤ W.heap.size) (hB : n₀ ≤ B)
    (hown' : w1.ownsRow n₀ e size v' m ys) (hgrow : (W.alloc tmp).grownBy w1 v.ownBlock) :
    TwoB w1 B T a v ∧ TwoB (w1.setCell ⟨B, 1, none⟩ v') B T a v' ∧ (w1.setCell ⟨B, 1, none⟩ v').ownsRow n₀ e size v' m ys ∧ KeepsOthers W (w1.setCell ⟨B, 1, none⟩ v') ∧ Below n₀ W (w1.setCell ⟨B, 1, none⟩ v') := by
  have hv1 : TwoB w1 B T a v := (hv.alloc tmp).kept hgrow (hv.not_row hte hrow)
  refine ⟨hv1, hv1.set1 v', hown'.kept (grown_set1 w1 B v') (.inr (hv1.not_row hte hown').symm), ?_, ?_⟩
  · refine ((KeepsOthers.alloc W tmp).trans (KeepsOthers.of_grownBy hgrow fun j o ej hj => ?_)).trans (KeepsOthers.setCell _ _ _)
    rcases (hrow.alloc tmp).2 with ⟨rfl, _⟩ | ⟨g, cap, cur, rfl, _, hgb, _⟩
    · simp [Value.ownBlock] at ej
    · obtain rfl : g = j := by simpa [Value.ownBlock] using ej
      rw [hgb] at hj; cases hj; rfl
  · refine (((Below.refl n₀ W).alloc hn₀ tmp).grown hgrow (by simp; omega) fun j ej => ?_).setCell (p := ⟨B, 1, none⟩) hB v'
    rcases hrow.2 with ⟨rfl, _⟩ | ⟨g, cap, cur, rfl, hb, _, _⟩
    · simp [Value.ownBlock] at ej
    · obtain rfl : g = j := by simpa [Value.ownBlock] using ej
      exact hb
theorem two_own {β : Type} (B T : Nat) (a v : Value) : Own (fun (_ : β) W => TwoB W B T a v) := by
  rintro s X Y row hv hg hrow
  exact hv.kept hg (fun e' => by
    obtain ⟨o, ho, hc⟩ := hrow B e'.symm
    rw [show X.heap[B]? = _ from hv] at ho; cases ho; cases hc)
theorem twoRow_own {β : Type} (n₀ B : Nat) (T e : TypeId) (size : Nat) (a : Value) (k : β → Nat) (f : β → List Value) : Own (fun s W => ∃ v, TwoB W B T a v ∧ W.ownsRow n₀ e size v (k s) (f s)) := by
  rintro s X Y row ⟨v, hv, hr⟩ hg hrow
  refine ⟨v, hv.kept hg (fun e' => ?_), hr.kept hg ?_⟩
  · obtain ⟨o, ho, hc⟩ := hrow B e'.symm
    rw [show X.heap[B]? = _ from hv] at ho; cases ho; cases hc
  · rcases hr.2 with ⟨rfl, _⟩ | ⟨g, cap, cur, rfl, _, hgb, _⟩
    · exact .inl rfl
    · refine .inr fun e' => ?_
      obtain ⟨o, ho, hc⟩ := hrow g (by simpa [Value.ownBlock] using e'.symm)
      rw [hgb] at ho; cases ho; cases hc

theorem contains_calls (A : Option Addr) (c : Nat) (l : List ByteArray) (x : ByteArray) (w : World) (hC : Kd.C Kd.string w A l.length l) :
    Calls Try.prog 40 #[.slice A l.length c, .string x] w fun e w' => e = .returned (.bool (Lib.containsS l x)) ∧ w' = w := by
  by_cases h0 : l = []
  · subst h0
    exact (Try.slices_Contains_string_empty A c x w).mono fun e w' ⟨he, hw⟩ => ⟨by rw [he]; rfl, hw⟩
  · have hl : 0 < l.length := List.length_pos_iff.2 h0
    obtain ⟨ad, rfl, hc⟩ := hC.2.2 hl
    have cell : ∀ j, j < l.length → w.cell? (ad.add j) = some (.string (l.getD j ByteArray.empty)) := by
      intro j hj
      obtain ⟨cs, hs, hk, hu⟩ := hc j l[j] (List.getElem?_eq_getElem hj)
      obtain rfl : cs = [.string l[j]] := hk
      have := hu 0 _ rfl
      rw [List.getD_eq_getElem?_getD, List.getElem?_eq_getElem hj]
      simpa [Kd.string, Kd.scalar] using this
    have hsp : ad.spot = none := by
      have h1 := cell 0 hl
      have h2 : ad.add 0 = ad := by simp [Addr.add]
      rw [h2] at h1
      unfold World.cell? at h1
      split at h1
      · cases hq : ad.spot with
        | none => rfl
        | some q => simp [hq] at h1
      · cases h1
    obtain ⟨b, off, sp⟩ := ad
    obtain rfl : sp = none := hsp
    have hadd : ∀ j, (Addr.mk b off none).add j = ⟨b, off + j, none⟩ := fun j => by
      unfold Addr.add
      by_cases hj : j = 0
      · subst hj; rfl
      · simp [hj]
    have := Try.slices_Contains_string b off l.length c l x w (Nat.le_refl _) hC.2.1 (fun j hj => by rw [← hadd]; exact cell j hj)
    rw [List.take_length] at this
    exact this

def siftL (l : List S32) (names : List ByteArray) (b : Bool) : List S32 := l.filter (fun x => Lib.containsS names x.f0 == b)
theorem siftL_snoc (l : List S32) (x : S32) (names : List ByteArray) (b : Bool) : siftL (l ++ [x]) names b = siftL l names b ++ (if (Lib.containsS names x.f0 == b) = true then [x] else []) := by
  unfold siftL
  rw [List.filter_append]
  congr 1
  by_cases h : (Lib.containsS names x.f0 == b) = true
  · rw [if_pos h]; simp only [List.filter_cons, List.filter_nil, h, if_true]
  · rw [if_neg h]; simp only [List.filter_cons, List.filter_nil, h]; rfl
theorem siftL_len (l : List S32) (names : List ByteArray) (b : Bool) : (siftL l names b).length ≤ l.length := List.length_filter_le _ _

set_option maxRecDepth 100000 in
set_option maxHeartbeats 4000000 in
theorem sifted_calls (m : ByteArray) (A : Option Addr) (c : Nat) (l : List S32) (A1 : Option Addr) (c1 : Nat) (names : List ByteArray) (b : Bool) (w : World) (hC : Kd.C k32 w A l.length l) (hC1 : Kd.C Kd.string w A1 names.length names) (hl : l.length ≤ 1000000) :
    Calls Try.prog 25 #[.agg #[.string m, .slice A l.length c], .slice A1 names.length c1, .bool b] w fun e w' => ∃ v, e = .returned (.agg #[.string m, v]) ∧ w'.ownsRow w.heap.size 32 2 v (siftL l names b).length (cellsL (siftL l names b)) ∧ Below w.heap.size w w' := by
  have huS := Try.underlying25
  have huL := Try.underlying32
  obtain ⟨i0, hi, hz0, hz1, hz2⟩ := info_parts infoLabel
  have HC := Aside0.mk hC
  have HC1 := Aside0.mk hC1
  have HBK := Aside0.mk (C_blk hC (by decide))
  clear hC hC1
  refine (callsIn_wide (n := 6)).1 ?_
  refine callsIn_of_wp_marks Try.func25 rfl trivial ?_ rfl
  simp only [Try.ntmps25, List.size_toArray, List.length_cons, List.length_nil, Nat.reduceAdd, Nat.reduceSub, Array.replicate_succ, Array.replicate_zero, List.push_toArray, List.append_toArray, List.nil_append, List.cons_append]
  gi_wp2_with fail
  refine ⟨trivial, ?_⟩
  gi_at_call 28
  refine (callsIn_wide.2 (all_calls m A l.length c _)).mono ?_
  rintro e w4 ⟨rfl, rfl⟩
  gi_wp2_with fail
  obtain ⟨w1, hw1⟩ : ∃ w1, w.alloc (.cells #[.string m, .slice A l.length c] 25) = w1 := ⟨_, rfl⟩
  have s1 : w1.heap.size = w.heap.size + 1 := by rw [← hw1]; simp
  have b1 : Below w.heap.size w w1 := by rw [← hw1]; exact (Below.refl _ w).alloc (Nat.le_refl _) _
  rw [hw1]
  have bx1 : Boxed (w1.alloc (.cells #[.slice A1 names.length c1] 36)) (w.heap.size + 1) 36 (.slice A1 names.length c1) := by rw [← s1]; exact Boxed.new w1 _ _
  obtain ⟨w2, hw2⟩ : ∃ w2, w1.alloc (.cells #[.slice A1 names.length c1] 36) = w2 := ⟨_, rfl⟩
  have s2 : w2.heap.size = w.heap.size + 2 := by rw [← hw2]; simp; omega
  have b2 : Below w.heap.size w w2 := by rw [← hw2]; exact b1.alloc (by omega) _
  rw [hw2] at bx1 ⊢
  have bx2 : Boxed (w2.alloc (.cells #[.bool b] 4)) (w.heap.size + 2) 4 (.bool b) := by rw [← s2]; exact Boxed.new w2 _ _
  replace bx1 := bx1.alloc (.cells #[.bool b] 4)
  obtain ⟨w3, hw3⟩ : ∃ w3, w2.alloc (.cells #[.bool b] 4) = w3 := ⟨_, rfl⟩
  have s3 : w3.heap.size = w.heap.size + 3 := by rw [← hw3]; simp; omega
  have b3 : Below w.heap.size w w3 := by rw [← hw3]; exact b2.alloc (by omega) _
  rw [hw3] at bx1 bx2 ⊢
  have bx3 : TwoB (w3.alloc (.cells #[.string ⟨#[]⟩, .slice none 0 0] 25)) (w.heap.size + 3) 25 (.string ⟨#[]⟩) (.slice none 0 0) := by rw [← s3]; exact World.alloc_heap_new w3 _
  replace bx1 := bx1.alloc (.cells #[.string ⟨#[]⟩, .slice none 0 0] 25)
  replace bx2 := bx2.alloc (.cells #[.string ⟨#[]⟩, .slice none 0 0] 25)
  obtain ⟨w4, hw4⟩ : ∃ w4, w3.alloc (.cells #[.string ⟨#[]⟩, .slice none 0 0] 25) = w4 := ⟨_, rfl⟩
  have s4 : w4.heap.size = w.heap.size + 4 := by rw [← hw4]; simp; omega
  have b4 : Below w.heap.size w w4 := by rw [← hw4]; exact b3.alloc (by omega) _
  rw [hw4] at bx1 bx2 bx3 ⊢
  have bx4 : TwoB (w4.alloc (.cells #[.string m, .slice none 0 0] 25)) (w.heap.size + 4) 25 (.string m) (.slice none 0 0) := by rw [← s4]; exact World.alloc_heap_new w4 _
  replace bx1 := bx1.alloc (.cells #[.string m, .slice none 0 0] 25)
  replace bx2 := bx2.alloc (.cells #[.string m, .slice none 0 0] 25)
  replace bx3 := bx3.alloc (.cells #[.string m, .slice none 0 0] 25)
  obtain ⟨w5, hw5⟩ : ∃ w5, w4.alloc (.cells #[.string m, .slice none 0 0] 25) = w5 := ⟨_, rfl⟩
  have s5 : w5.heap.size = w.heap.size + 5 := by rw [← hw5]; simp; omega
  have b5 : Below w.heap.size w w5 := by rw [← hw5]; exact b4.alloc (by omega) _
  rw [hw5] at bx1 bx2 bx3 bx4 ⊢
  have hA : (w5.alloc (.cells #[.string m, .slice A l.length c] 25)).heap[w.heap.size + 5]? = some (.cells #[.string m, .slice A l.length c] 25 (0, 0)) := by
    rw [← s5]; exact World.alloc_heap_new w5 _
  replace bx1 := bx1.alloc (.cells #[.string m, .slice A l.length c] 25)
  replace bx2 := bx2.alloc (.cells #[.string m, .slice A l.length c] 25)
  replace bx3 := bx3.alloc (.cells #[.string m, .slice A l.length c] 25)
  replace bx4 := bx4.alloc (.cells #[.string m, .slice A l.length c] 25)
  obtain ⟨w6, hw6⟩ : ∃ w6, w5.alloc (.cells #[.string m, .slice A l.length c] 25) = w6 := ⟨_, rfl⟩
  have s6 : w6.heap.size = w.heap.size + 6 := by rw [← hw6]; simp; omega
  have b6 : Below w.heap.size w w6 := by rw [← hw6]; exact b5.alloc (by omega) _
  rw [hw6] at bx1 bx2 bx3 bx4 hA ⊢
  have hC6 : Kd.C k32 w6 A l.length l := Kd.C_below HC.out b6
  clear hw1 hw2 hw3 hw4 hw5 hw6 s1 s2 s3 s4 s5 b1 b2 b3 b4 b5
  rw [show w.heap.size + 1 + 1 = w.heap.size + 2 from rfl, show w.heap.size + 2 + 1 = w.heap.size + 3 from rfl, show w.heap.size + 3 + 1 = w.heap.size + 4 from rfl, show w.heap.size + 4 + 1 = w.heap.size + 5 from rfl]
  have hall := all_stops (fun x : S32 => x) Fence.wide (6 - 1) trivial rfl (by omega) (w.heap.size + 5) w.heap.size m A c l w6 (by omega) (by omega) (by rw [Lib.cell_of_heap hA]; rfl) (by rw [Lib.cell_of_heap hA]; rfl) (by rw [List.map_id']; exact hC6) HBK.out
  refine wpIn_rangeFunc_ownF (F := Fence.wide) (n := 6) rfl (by omega) (gf := 42) (lb := #[.pointer (some ⟨w.heap.size + 5, 0, none⟩)]) rfl trivial (enters_of Try.func42 (by kernel_rfl) rfl)
    hall
    belowK_t (belowK_b (by omega)) (Below.refl _ _) (fun _ => rfl)
    (fun pre W => (((Boxed W (w.heap.size + 1) 36 (.slice A1 names.length c1) ∧ Boxed W (w.heap.size + 2) 4 (.bool b)) ∧ TwoB W (w.heap.size + 3) 25 (.string ⟨#[]⟩) (.slice none 0 0)) ∧ (∃ v, TwoB W (w.heap.size + 4) 25 (.string m) v ∧ W.ownsRow w.heap.size 32 2 v (siftL pre names b).length (cellsL (siftL pre names b)))) ∧ Below w.heap.size w W)
    (fun _ _ _ => False)
    (OwnFrom.and (Own.from (fun s A B row hs hg hr => ⟨⟨⟨boxed_own _ _ (fun _ : List S32 => .slice A1 names.length c1) s A B row hs.1.1.1 hg hr, boxed_own _ _ (fun _ : List S32 => .bool b) s A B row hs.1.1.2 hg hr⟩, two_own _ _ _ _ s A B row hs.1.2 hg hr⟩, twoRow_own w.heap.size _ _ 32 2 _ (fun pre => (siftL pre names b).length) (fun pre => cellsL (siftL pre names b)) s A B row hs.2 hg hr⟩) _) (ownFrom_below (Nat.le_refl _) (by omega)))
    (fun _ _ _ _ _ hs _ _ => hs)
    ⟨⟨⟨⟨bx1, bx2⟩, bx3⟩, _, bx4, ⟨rfl, .inl ⟨rfl, rfl⟩⟩⟩, b6⟩
    (fun x => { tmps := #[.agg #[.string m, .slice A l.length c], .slice A1 names.length c1, .bool b, .pointer (some ⟨w.heap.size, 0, none⟩), .pointer (some ⟨w.heap.size + 1, 0, none⟩), .pointer (some ⟨w.heap.size + 2, 0, none⟩), .pointer (some ⟨w.heap.size + 3, 0, none⟩), .pointer (some ⟨w.heap.size + 4, 0, none⟩), .string x.f0, .string x.f1, .pointer (some ⟨w.heap.size, 0, none⟩), .string m, .agg #[.string m, .slice none 0 0], .agg #[.string m, .slice A l.length c], .func (.func 42) #[] #[.pointer (some ⟨w.heap.size + 5, 0, none⟩)], .string x.f0, .string x.f1, undef, undef, undef, undef, undef, undef, undef, undef, undef, undef, undef, undef, undef, undef], defers := [] }) ?assign ?body ?done ?stop
  case assign =>
    intro lp x W K hK
    gi_wp2
    exact hK
  case body =>
    rintro lp pre x W ⟨⟨⟨⟨hx1, hx2⟩, hx3⟩, v, hv, ho⟩, hbe⟩ hlen
    have hc1 := hx1.cell
    have hc2 := hx2.cell
    have HX1 := Aside0.mk hx1
    have HX2 := Aside0.mk hx2
    have HX3 := Aside0.mk hx3
    have HV := Aside0.mk hv
    have HO := Aside0.mk ho
    have Hbe := Aside0.mk hbe
    clear hx1 hx2 hx3 hv ho hbe
    gi_wp2
    refine wpIn_region_quiet_round rfl ?hd (by kernel_rfl) (by kernel_rfl) ?_
    case hd =>
      intro o ho cd hcd
      simp only [List.mem_cons, List.not_mem_nil, or_false] at ho
      rcases ho with rfl | rfl | rfl | rfl | rfl <;> cases hcd
    repeat
      (refine wpQuietIn_step (by first | quiet_asked_in | (intro a ha f hf; trivial)) (fun K hK => ?_)
       go_simp
       first
       | (refine hK _ ?_; clear hK K)
       | (apply Exists.intro
          refine ⟨fun _ => ?_, hK _ ?_⟩
          (gi_at_call 40; refine CallsIn.quiet_of_same (callsIn_wide.2 (contains_calls A1 c1 names x.f0 _ (Kd.C_below HC1.out (pw_below_drewN Hbe.out _)))))
          clear hK K))
    refine wpQuietIn_nil ?_
    intro _ hw'
    obtain ⟨nq, hw''⟩ := hw'
    subst hw''
    obtain ⟨Wd, hWd⟩ : ∃ Wd, W.drewN nq = Wd := ⟨_, rfl⟩
    have hheap : Wd.heap = W.heap := by rw [← hWd]; exact World.heap_drewN _ _
    have hgd : W.grownBy Wd none := by rw [← hWd]; exact ⟨rfl, rfl, rfl, Nat.le_refl _, fun _ _ _ => rfl⟩
    have hbd : Below w.heap.size W Wd := by rw [← hWd]; exact pw_below_drewN (Below.refl _ _) _
    have hkd : KeepsOthers W Wd := ⟨by rw [hheap]; exact Nat.le_refl _, fun k o h _ => by rw [hheap]; exact h⟩
    rw [hWd]
    have hWd' := hWd
    clear hWd
    have HVd := Aside0.mk (show TwoB Wd (w.heap.size + 4) 25 (.string m) v from HV.out.kept hgd (by simp))
    have HOd := Aside0.mk (by rw [← hWd']; exact pw_own_drewN HO.out nq : Wd.ownsRow w.heap.size 32 2 v (siftL pre names b).length (cellsL (siftL pre names b)))
    have HX1d := Aside0.mk (HX1.out.kept hgd (by simp))
    have HX2d := Aside0.mk (HX2.out.kept hgd (by simp))
    have HX3d := Aside0.mk (HX3.out.kept hgd (by simp))
    clear hWd'
    have hcv := HVd.out.cell1
    have hcf := HVd.out.fr1
    have hsz : w.heap.size ≤ Wd.heap.size := by rw [hheap]; exact Hbe.out.size
    clear hheap
    have hlen2 := siftL_len pre names b
    have hS := siftL_snoc pre x names b
    by_cases hb : (Lib.containsS names x.f0 == b) = true
    · rw [if_pos hb] at hS
      rw [hb]
      have HS := Aside0.mk hS
      clear hS
      gi_wp2_with (gi_at_builtin; refine wpListIn_append_own _ rfl _ _ 22 rfl w.heap.size 32 i0 (.agg #[.string ByteArray.empty, .string ByteArray.empty]) 2 32 Try.underlying22 hi hz0 hz1 hz2 rfl (by decide) _ _ _ rfl (HOd.out.kept (World.grownBy_alloc Wd (.cells #[.string x.f0, .string x.f1] 32) none) (by cases v.ownBlock <;> simp)) ⟨Wd.heap.size, 0, none⟩ 1 1 [.string x.f0, .string x.f1] rfl rfl ?c1 ?c2 ?c3 ?c4 ?c5 ?_)
      case c1 =>
        intro j u hj
        match j, hj with
        | 0, hj => simp at hj; subst hj; simp [Addr.add]
        | 1, hj => simp at hj; subst hj; simp [Addr.add]
      case c2 => intro u hu; simp at hu; rcases hu with rfl | rfl <;> rfl
      case c3 => unfold maxLen; omega
      case c4 => omega
      case c5 => simp; omega
      intro v' w2 hown' hgrow _
      obtain ⟨g', cap', rfl⟩ := ownsRow_succ hown'
      obtain ⟨hv1, hv2, hr2, hk2, hb2⟩ := HVd.out.appended (by decide) HOd.out hsz (by omega) hown' hgrow
      have hc1 := hv1.cell1
      have hf1 := hv1.fr1
      have HV2 := Aside0.mk hv2
      have HR2 := Aside0.mk hr2
      have HK2 := Aside0.mk hk2
      have HB2 := Aside0.mk hb2
      have HY1 := Aside0.mk (((HX1d.out.alloc (.cells #[.string x.f0, .string x.f1] 32)).kept hgrow (HX1d.out.not_row (by decide) HOd.out)).kept (grown_set1 w2 (w.heap.size + 4) (.slice (some ⟨g', 0, none⟩) ((siftL pre names b).length + 1) cap')) (by simp))
      have HY2 := Aside0.mk (((HX2d.out.alloc (.cells #[.string x.f0, .string x.f1] 32)).kept hgrow (HX2d.out.not_row (by decide) HOd.out)).kept (grown_set1 w2 (w.heap.size + 4) (.slice (some ⟨g', 0, none⟩) ((siftL pre names b).length + 1) cap')) (by simp))
      have HY3 := Aside0.mk (((HX3d.out.alloc (.cells #[.string x.f0, .string x.f1] 32)).kept hgrow (HX3d.out.not_row (by decide) HOd.out)).kept (grown_set1 w2 (w.heap.size + 4) (.slice (some ⟨g', 0, none⟩) ((siftL pre names b).length + 1) cap')) (by simp))
      clear hown' hgrow hv1 hv2 hr2 hk2 hb2
      gi_wp2
      refine ⟨hkd.trans HK2.out, hbd.trans HB2.out, ⟨⟨⟨⟨HY1.out, HY2.out⟩, HY3.out⟩, _, HV2.out, ?_⟩, (Hbe.out.trans hbd).trans HB2.out⟩⟩
      rw [HS.out, List.length_append, List.length_singleton, cellsL_snoc]
      exact HR2.out
    · rw [if_neg hb, List.append_nil] at hS
      rw [Bool.eq_false_iff.2 hb]
      gi_wp2
      refine ⟨hkd, hbd, ⟨⟨⟨⟨HX1d.out, HX2d.out⟩, HX3d.out⟩, v, HVd.out, ?_⟩, Hbe.out.trans hbd⟩⟩
      rw [hS]
      exact HOd.out
  case done =>
    rintro D xs W hD rfl ⟨⟨⟨⟨hx1, hx2⟩, hx3⟩, v, hv, ho⟩, hbe⟩ hK
    have G3 := Aside0.mk ((hx3.set0 (.string m)).set1 v)
    have hne : some (w.heap.size + 3) ≠ v.ownBlock := hx3.not_row (by decide) ho
    have O3 := Aside0.mk ((ho.kept (grownBy_setCell' W (w.heap.size + 3) (.string m)) (.inr hne.symm)).kept (grown_set1 _ (w.heap.size + 3) v) (.inr hne.symm))
    have HK2 := Aside0.mk (((KeepsOthers.setCell W ⟨w.heap.size + 3, 0, none⟩ (.string m)).trans (KeepsOthers.setCell _ ⟨w.heap.size + 3, 1, none⟩ v)).same D _ hK rfl)
    have B6 := Aside0.mk (((hbe.setCell (p := ⟨w.heap.size + 3, 0, none⟩) (by simp only; omega) (.string m)).setCell (p := ⟨w.heap.size + 3, 1, none⟩) (by simp only; omega) v).trans (belowK_b (w := w6) (by omega) _ D _ (.deferred none) hD HK2.out rfl rfl))
    have hvs : v = .slice none 0 0 ∨ ∃ g n cap, v = .slice (some ⟨g, 0, none⟩) n cap := by
      rcases ho.2 with ⟨rfl, _⟩ | ⟨g, cap, cur, rfl, _⟩
      · exact .inl rfl
      · exact .inr ⟨_, _, _, rfl⟩
    have hc0 := hv.cell0
    have hc1 := hv.cell1
    have hd0 := hx3.cell0
    have hd1 := hx3.cell1
    have hf0 := hx3.fr0
    have hf1 := hx3.fr1
    clear hx1 hx2 hx3 hv ho hbe hK hne
    rcases hvs with rfl | ⟨g, n, cap, rfl⟩
    · gi_wp2
      refine ⟨by simp, .inl ⟨_, _, rfl, run_takeDeferred HK2.out, ?_⟩⟩
      have e0 := (G3.out.kept (grownBy_putObj' _ D (.deferred none)) (fun e => by cases e; omega)).cell0
      have e1 := (G3.out.kept (grownBy_putObj' _ D (.deferred none)) (fun e => by cases e; omega)).cell1
      exact ⟨.agg #[.string m, .slice none 0 0], by simp [results, Try.results25, go_sem, e0, e1], _, rfl, ownsRow_putObj O3.out _ HK2.out rfl, B6.out⟩
    · gi_wp2
      refine ⟨by simp, .inl ⟨_, _, rfl, run_takeDeferred HK2.out, ?_⟩⟩
      have e0 := (G3.out.kept (grownBy_putObj' _ D (.deferred none)) (fun e => by cases e; omega)).cell0
      have e1 := (G3.out.kept (grownBy_putObj' _ D (.deferred none)) (fun e => by cases e; omega)).cell1
      exact ⟨.agg #[.string m, .slice (some ⟨g, 0, none⟩) n cap], by simp [results, Try.results25, go_sem, e0, e1], _, rfl, ownsRow_putObj O3.out _ HK2.out rfl, B6.out⟩
  case stop =>
    rintro D cd pre W _ _ h _
    exact h.elim

-- EXT tidemill/tag.sifted plain making
def tag_sifted.f (a0_0 : ByteArray) (l0_1 : List S32) (l1 : List ByteArray) (a2 : Bool) : Option (ByteArray × List S32) := if l0_1.length ≤ 1000000 then some (a0_0, siftL l0_1 l1 a2) else none
theorem tag_sifted.calls (a0_0 : ByteArray) (A0_1 : Option Addr) (c0_1 : Nat) (l0_1 : List S32) (A1 : Option Addr) (c1 : Nat) (l1 : List ByteArray) (a2 : Bool) (r1 : ByteArray) (r2 : List S32) (w : World) (hr0_1 : Kd.C k32 w A0_1 l0_1.length l0_1) (hc0_1 : l0_1.length ≤ c0_1) (hr1 : Kd.C Kd.string w A1 l1.length l1) (hc1 : l1.length ≤ c1) (h : tag_sifted.f a0_0 l0_1 l1 a2 = some (r1, r2)) :
    Calls Try.prog 25 #[.agg #[.string a0_0, .slice A0_1 l0_1.length c0_1], .slice A1 l1.length c1, .bool a2] w fun e w' => ∃ v1_ : Value, e = .returned (.agg #[.string r1, v1_]) ∧ Kd.R k32 32 w' w.heap.size (fun _ => True) v1_ r2 ∧ Below w.heap.size w w' := by
  unfold tag_sifted.f at h
  split at h
  · rename_i hl
    have h1 := Option.some.inj h
    obtain ⟨rfl, rfl⟩ := Prod.mk.inj h1
    exact (sifted_calls a0_0 A0_1 c0_1 l0_1 A1 c1 l1 a2 w hr0_1 hr1 hl).mono fun e w' ⟨v, he, ho, hb⟩ => ⟨v, he, R_of_owns ho, hb⟩
  · cases h
end Go.Proofs.Ytiddemgeehcjpaa.H
