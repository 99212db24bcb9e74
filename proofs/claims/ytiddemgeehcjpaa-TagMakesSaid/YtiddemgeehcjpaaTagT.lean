/- tag.Text: a series' text. -/
import Derived.Test.YtiddemgeehcjpaaTagI
import Derived.Test.YtiddemgeehcjpaaBld
import Derived.Test.YtiddemgeehcjpaaShelf
namespace Go.Proofs.Ytiddemgeehcjpaa.H
open Go.RowKit Go.Shelf Go.Proofs.Ytiddemgeehcjpaa.PA Go.Proofs.YtiddemgeehcjpaaW.PrintWords Go.Proofs.YtiddemgeehcjpaaW.PrintLast Go.Proofs.YtiddemgeehcjpaaW.PrintMore
attribute [local go_sem] Oper.semAt_some
set_option linter.unusedVariables false

theorem ret_str {v : Value} {a : Array UInt8} {l : List UInt8} (h : v = .string ⟨a⟩) (h' : a = l.toArray) : Ending.returned v = .returned (.string ⟨l.toArray⟩) := by rw [h, h']
def labs (b : UInt8) : List S32 → List UInt8
  | [] => []
  | x :: r => b :: (x.f0.data.toList ++ 61 :: (x.f1.data.toList ++ labs 44 r))
theorem labs_snoc (b : UInt8) (l : List S32) (x : S32) : labs b (l ++ [x]) = labs b l ++ (if l = [] then b else 44) :: (x.f0.data.toList ++ 61 :: x.f1.data.toList) := by
  induction l generalizing b with
  | nil => simp [labs]
  | cons y r ih =>
    simp only [List.cons_append, labs, ih]
    by_cases h : r = [] <;> simp [h]
/-- A series' text. -/
def textL (m : ByteArray) (l : List S32) : List UInt8 := m.data.toList ++ (if l = [] then [] else labs 123 l ++ [125])
def sepB (l : List S32) : ByteArray := if l = [] then ⟨#[123]⟩ else ⟨#[44]⟩

theorem labs_word (P : List S32) (x : S32) {sp : ByteArray} (h : sepB P = sp) : (sp ++ x.f0 ++ ⟨#[61]⟩ ++ x.f1).data.toList = (if P = [] then 123 else 44) :: (x.f0.data.toList ++ 61 :: x.f1.data.toList) := by
  subst h
  unfold sepB
  by_cases h : P = [] <;> simp [h, ByteArray.data_append]
/-- A label that isn't long. -/
def Short (x : S32) : Prop := x.f0.size ≤ 4096 ∧ x.f1.size ≤ 4096
theorem labs_len (b : UInt8) (l : List S32) (h : ∀ x ∈ l, Short x) : (labs b l).length ≤ l.length * 8194 := by
  induction l generalizing b with
  | nil => simp [labs]
  | cons x r ih =>
    have h1 := ih 44 (fun y hy => h y (by simp [hy]))
    obtain ⟨h2, h3⟩ := h x (by simp)
    simp only [labs, List.length_cons, List.length_append, Array.length_toList]
    have : x.f0.data.size = x.f0.size := rfl
    have : x.f1.data.size = x.f1.size := rfl
    omega

theorem builder_own (T e : TypeId) (B b : Nat) (p : Value) {β : Type} (f : β → List Value) : Own (fun s W => Lib.BuilderAt T e B b p (f s) W) := by
  rintro s X Y row ⟨hB, v, hb, ho, hne⟩ hg hr
  refine ⟨hB, v, ?_, ho.kept hg ?_, hne⟩
  · rw [hg.block b (Array.getElem?_eq_some_iff.1 hb).1 ?_]
    · exact hb
    · rintro rfl
      obtain ⟨o, h1, h2⟩ := hr b rfl
      rw [hb] at h1
      cases h1
      cases h2
  · cases hv : v.ownBlock with
    | none => exact .inl rfl
    | some g =>
      refine .inr ?_
      rintro rfl
      obtain ⟨o, h1, h2⟩ := hr g rfl
      obtain ⟨c, fz, h3⟩ := Bld.ownsRow_kind ho g hv
      rw [h3] at h1
      cases h1
      cases h2
theorem builder_far {T e t : TypeId} {B b g : Nat} {p v : Value} {bs : List Value} {W : World} (h : Lib.BuilderAt T e B b p bs W) (hx : Boxed W g t v) (ht : t ≠ T) (ht' : t ≠ e) (u : Value) : Lib.BuilderAt T e B b p bs (W.setCell ⟨g, 0, none⟩ u) := by
  obtain ⟨hB, v', hb, ho, hne⟩ := h
  have hgb : g ≠ b := by
    rintro rfl
    have h1 := (show W.heap[g]? = _ from hx).symm.trans hb
    injection h1 with h1
    injection h1 with _ h2
    exact ht h2
  refine ⟨hB, v', ?_, ho.kept (grownBy_setCell' W g u) (.inr (hx.not_row ht' ho).symm), hne⟩
  rw [Below.heap_setCell _ _ _ _ (fun e => hgb e.symm)]
  exact hb
theorem keeps_of_others {e : TypeId} {b : Nat} {w w' : World} (h : Lib.OthersKept e (some b) w w') (hs : w.heap.size ≤ w'.heap.size) (hb : ∃ c t f, w.heap[b]? = some (.cells c t f)) : KeepsOthers w w' := by
  refine ⟨hs, fun k o ho hc => h k o ho ?_ ?_⟩
  · rintro ⟨⟩
    obtain ⟨c, t, f, hh⟩ := hb
    rw [hh] at ho
    cases ho
    cases hc
  · rintro c f rfl
    cases hc

set_option maxRecDepth 100000 in
set_option maxHeartbeats 4000000 in
theorem text_calls (m : ByteArray) (A : Option Addr) (c : Nat) (l : List S32) (w : World) (hC : Kd.C k32 w A l.length l) (hm : m.size ≤ 4096) (hl : l.length ≤ 4096) (hs : ∀ x ∈ l, Short x) :
    Calls Try.prog 14 #[.agg #[.string m, .slice A l.length c]] w fun e w' => e = .returned (.string ⟨(textL m l).toArray⟩) ∧ Below w.heap.size w w' := by
  have huS := Try.underlying25
  have HC := Aside0.mk hC
  have HBK := Aside0.mk (C_blk hC (by decide))
  obtain ⟨l', hl'⟩ : ∃ l' : List { x : S32 // Short x }, l'.map (·.1) = l := ⟨l.attach.map (fun x => ⟨x.1, hs x.1 x.2⟩), by simp⟩
  subst hl'
  have hln : (l'.map (·.1)).length = l'.length := by simp
  rw [hln] at HC HBK hl ⊢
  have HSH := Aside0.mk hs
  clear hC hs hln
  refine (callsIn_wide (n := 6)).1 ?_
  refine callsIn_of_wp_marks Try.func14 rfl trivial ?_ rfl
  simp only [Try.ntmps14, List.size_toArray, List.length_cons, List.length_nil, Nat.reduceAdd, Nat.reduceSub, Array.replicate_succ, Array.replicate_zero, List.push_toArray, List.append_toArray, List.nil_append, List.cons_append]
  gi_wp2_with fail
  refine ⟨trivial, ?_⟩
  gi_at_call 27
  have hb2 : Lib.IsBuilder 53 5 w.heap.size (w.heap.size + 1) [] ((w.alloc (.cells #[.string m, .slice A l'.length c] 25)).alloc (.cells #[.pointer none, .slice none 0 0] 53)) :=
    .inl ⟨by omega, .slice none 0 0, by have := World.alloc_heap_new (w.alloc (.cells #[.string m, .slice A l'.length c] 25)) (.cells #[.pointer none, .slice none 0 0] 53); rwa [World.size_alloc] at this, ⟨rfl, .inl ⟨rfl, rfl⟩⟩, by simp [Value.ownBlock]⟩
  have hser : ((w.alloc (.cells #[.string m, .slice A l'.length c] 25)).alloc (.cells #[.pointer none, .slice none 0 0] 53)).heap[w.heap.size]? = some (.cells #[.string m, .slice A l'.length c] 25 (0, 0)) :=
    (Below.heap_alloc _ _ _ (by simp)).trans (World.alloc_heap_new w _)
  have hs2 : ((w.alloc (.cells #[.string m, .slice A l'.length c] 25)).alloc (.cells #[.pointer none, .slice none 0 0] 53)).heap.size = w.heap.size + 2 := by simp
  have hB2 : Below w.heap.size w ((w.alloc (.cells #[.string m, .slice A l'.length c] 25)).alloc (.cells #[.pointer none, .slice none 0 0] 53)) := ((Below.refl _ w).alloc (Nat.le_refl _) _).alloc (by simp) _
  generalize (w.alloc (.cells #[.string m, .slice A l'.length c] 25)).alloc (.cells #[.pointer none, .slice none 0 0] 53) = w2 at hb2 hser hs2 hB2 ⊢
  refine (callsIn_wide.2 (Bld.writeString w.heap.size (w.heap.size + 1) [] m w2 hb2 ?_ ?_)).mono ?_
  · simp only [List.length_nil]; omega
  · omega
  rintro e w3 ⟨rfl, hb3, hB3, hk3⟩
  have hser3 := hk3 _ _ hser (by simp) (by rintro c fz ⟨⟩)
  have hs3 := hB3.size
  replace hB3 := hB2.trans hB3
  rw [List.nil_append] at hb3
  clear hb2 hk3 hser hB2
  have Hb3 := Aside0.mk hb3
  have HB3 := Aside0.mk hB3
  have HS3 := Aside0.mk hser3
  have hcs0 : w3.cell? ⟨w.heap.size, 0, none⟩ = some (.string m) := by rw [Lib.cell_of_heap hser3]; rfl
  have hcs1 : w3.cell? ⟨w.heap.size, 1, none⟩ = some (.slice A l'.length c) := by rw [Lib.cell_of_heap hser3]; rfl
  have hlt3 : w.heap.size + 2 ≤ w3.heap.size := by omega
  have hlt3' : w.heap.size < w3.heap.size := by omega
  have hcs0' := Lib.cell?_alloc_some (Obj.cells #[Value.string ⟨#[123]⟩] 9) hcs0
  have hcs1' := Lib.cell?_alloc_some (Obj.cells #[Value.string ⟨#[123]⟩] 9) hcs1
  clear hb3 hB3 hser3 hs3 hs2
  gi_wp2_with fail
  refine ⟨trivial, ?_⟩
  gi_at_call 28
  refine (callsIn_wide.2 (all_calls m A l'.length c _)).mono ?_
  rintro e w4 ⟨rfl, rfl⟩
  gi_wp2_with fail
  have hbl3 : Lib.BuilderAt 53 5 w.heap.size (w.heap.size + 1) (.pointer (some ⟨w.heap.size + 1, 0, none⟩)) (Lib.byteCells (m.data.toList ++ labs 123 (([] : List { x : S32 // Short x }).map (·.1)))) ((w3.alloc (.cells #[.string ⟨#[123]⟩] 9)).alloc (.cells #[.string m, .slice A l'.length c] 25)) := by
    simp only [List.map_nil, labs, List.append_nil]
    exact Own.alloc (builder_own _ _ _ _ _ (fun _ : Unit => Lib.strCells m)) _ (s := ()) (Own.alloc (builder_own _ _ _ _ _ (fun _ : Unit => Lib.strCells m)) (s := ()) _ Hb3.out)
  have hbx3 : Boxed ((w3.alloc (.cells #[.string ⟨#[123]⟩] 9)).alloc (.cells #[.string m, .slice A l'.length c] 25)) w3.heap.size 9 (.string (sepB (([] : List { x : S32 // Short x }).map (·.1)))) := (Boxed.new w3 9 _).alloc _
  have hbe3 : Below w.heap.size w ((w3.alloc (.cells #[.string ⟨#[123]⟩] 9)).alloc (.cells #[.string m, .slice A l'.length c] 25)) := (HB3.out.alloc (by omega) _).alloc (by simp; omega) _
  have hz3 : ((w3.alloc (.cells #[.string ⟨#[123]⟩] 9)).alloc (.cells #[.string m, .slice A l'.length c] 25)).heap.size = w3.heap.size + 2 := by simp
  have hA3 : ((w3.alloc (.cells #[.string ⟨#[123]⟩] 9)).alloc (.cells #[.string m, .slice A l'.length c] 25)).heap[w3.heap.size + 1]? = some (.cells #[.string m, .slice A l'.length c] 25 (0, 0)) := by
    have := World.alloc_heap_new (w3.alloc (.cells #[.string ⟨#[123]⟩] 9)) (.cells #[.string m, .slice A l'.length c] 25); rwa [World.size_alloc] at this
  have hC3 : Kd.C k32 ((w3.alloc (.cells #[.string ⟨#[123]⟩] 9)).alloc (.cells #[.string m, .slice A l'.length c] 25)) A l'.length (l'.map (·.1)) := Kd.C_below HC.out hbe3
  generalize (w3.alloc (.cells #[.string ⟨#[123]⟩] 9)).alloc (.cells #[.string m, .slice A l'.length c] 25) = w5 at hbl3 hbx3 hbe3 hz3 hA3 hC3 ⊢
  refine wpIn_rangeFunc_ownF (F := Fence.wide) (n := 6) rfl (by omega) (gf := 42) (lb := #[.pointer (some ⟨w3.heap.size + 1, 0, none⟩)]) rfl trivial (enters_of Try.func42 (by kernel_rfl) rfl)
    (all_stops (fun x : { x : S32 // Short x } => x.1) Fence.wide (6 - 1) trivial rfl (by omega) (w3.heap.size + 1) w.heap.size m A c l' w5 (by omega) (by omega) (by rw [Lib.cell_of_heap hA3]; rfl) (by rw [Lib.cell_of_heap hA3]; rfl) hC3 HBK.out)
    belowK_t (belowK_b (by omega)) (Below.refl _ _) (fun _ => rfl)
    (fun pre W => (Lib.BuilderAt 53 5 w.heap.size (w.heap.size + 1) (.pointer (some ⟨w.heap.size + 1, 0, none⟩)) (Lib.byteCells (m.data.toList ++ labs 123 (pre.map (·.1)))) W ∧ Boxed W w3.heap.size 9 (.string (sepB (pre.map (·.1))))) ∧ Below w.heap.size w W)
    (fun _ _ _ => False)
    (OwnFrom.and (Own.from (fun s A B row hs hg hr => ⟨builder_own _ _ _ _ _ (fun pre : List { x : S32 // Short x } => Lib.byteCells (m.data.toList ++ labs 123 (pre.map (·.1)))) s A B row hs.1 hg hr, boxed_own _ _ (fun pre : List { x : S32 // Short x } => .string (sepB (pre.map (·.1)))) s A B row hs.2 hg hr⟩) _) (ownFrom_below (Nat.le_refl _) (by omega)))
    (fun _ _ _ _ _ hs _ _ => hs)
    ⟨⟨hbl3, hbx3⟩, hbe3⟩
    (fun x => { tmps := #[.agg #[.string m, .slice A l'.length c], .pointer (some ⟨w.heap.size, 0, none⟩), .string ⟨#[]⟩, .pointer (some ⟨w.heap.size + 1, 0, none⟩), .pointer (some ⟨w3.heap.size, 0, none⟩), .string x.1.f0, .string x.1.f1, .pointer (some ⟨w.heap.size, 0, none⟩), .string m, .tuple #[.int .i64 m.size, .nilIface], .agg #[.string m, .slice A l'.length c], .func (.func 42) #[] #[.pointer (some ⟨w3.heap.size + 1, 0, none⟩)], .string x.1.f0, .string x.1.f1, undef, undef, undef, undef, undef, undef, undef, undef, undef, undef, undef], defers := [] }) ?assign ?body ?done ?stop
  case assign =>
    intro lp x W K hK
    gi_wp2
    exact hK
  case body =>
    rintro lp pre ⟨x, hx0, hx1⟩ W ⟨⟨hbl, hbx⟩, hbe⟩ hlen
    dsimp only
    have hsp : (sepB (pre.map (·.1))).size ≤ 1 := by unfold sepB; split <;> decide
    have hpl : (labs 123 (pre.map (·.1))).length ≤ 4096 * 8194 := Nat.le_trans (labs_len _ _ (fun y hy => by obtain ⟨z, _, rfl⟩ := List.mem_map.1 hy; exact z.2)) (by simp only [List.length_map]; omega)
    obtain ⟨sp, hspe⟩ : ∃ sp, sepB (pre.map (·.1)) = sp := ⟨_, rfl⟩
    rw [hspe] at hsp hbx
    have Hspe := Aside0.mk hspe
    have hcb := hbx.cell
    have hfb := hbx.frozen
    have Hbl := Aside0.mk hbl
    have Hbx := Aside0.mk hbx
    have Hbe := Aside0.mk hbe
    clear hbl hbx hbe hspe
    have e1 : (sp ++ x.f0).size = sp.size + x.f0.size := ByteArray.size_append
    have e2 : (sp ++ x.f0 ++ ⟨#[61]⟩).size = sp.size + x.f0.size + 1 := by rw [ByteArray.size_append, e1]; rfl
    have e3 : (sp ++ x.f0 ++ ⟨#[61]⟩ ++ x.f1).size = sp.size + x.f0.size + 1 + x.f1.size := by rw [ByteArray.size_append, e2]
    have b1 : (sp ++ x.f0).size ≤ 4097 := by omega
    have b2 : (sp ++ x.f0 ++ ⟨#[61]⟩).size ≤ 4098 := by omega
    have b3 : (sp ++ x.f0 ++ ⟨#[61]⟩ ++ x.f1).size ≤ 8194 := by omega
    clear e1 e2 e3
    gi_wp2_with fail
    refine ⟨trivial, ?_⟩
    gi_at_call 27
    refine (CallsIn.inRound lp (callsIn_wide.2 (Bld.writeString w.heap.size (w.heap.size + 1) _ _ W (.inr Hbl.out) ?_ ?_))).mono ?_
    · simp only [Lib.byteCells_length, List.length_append, Array.length_toList]
      have : m.data.size = m.size := rfl
      omega
    · exact Hbe.out.size
    rintro e W1 ⟨rfl, hbl1, hB1, hk1⟩
    have hbx1 : Boxed W1 w3.heap.size 9 (.string sp) := hk1 _ _ Hbx.out (by simp; omega) (by rintro c fz ⟨⟩)
    have hcb1 := hbx1.cell
    have hfb1 := hbx1.frozen
    have hkp := keeps_of_others hk1 hB1.size (by obtain ⟨_, v, hh, _⟩ := Hbl.out; exact ⟨_, _, _, hh⟩)
    have HBL := Aside0.mk hbl1
    have HBX := Aside0.mk hbx1
    have HB1 := Aside0.mk hB1
    have HKP := Aside0.mk hkp
    clear hbl1 hbx1 hB1 hk1 hkp hcb hfb
    gi_wp2
    refine ⟨HKP.out.trans (KeepsOthers.setCell _ _ _), HB1.out.setCell (p := ⟨w3.heap.size, 0, none⟩) (by simp only; omega) _, ⟨⟨?_, ?_⟩, (Hbe.out.trans HB1.out).setCell (p := ⟨w3.heap.size, 0, none⟩) (by simp only; omega) _⟩⟩
    · have h1 := builder_far HBL.out HBX.out (by decide) (by decide) (.string ⟨#[44]⟩)
      have hps : (pre ++ [(⟨x, hx0, hx1⟩ : { x : S32 // Short x })]).map (·.1) = pre.map (·.1) ++ [x] := by rw [List.map_append]; rfl
      rw [hps, labs_snoc, ← List.append_assoc, Lib.byteCells_append, ← labs_word _ _ Hspe.out, ← Lib.strCells_eq]
      exact h1
    · have : sepB ((pre ++ [(⟨x, hx0, hx1⟩ : { x : S32 // Short x })]).map (·.1)) = ⟨#[44]⟩ := by unfold sepB; rw [if_neg (by simp)]
      rw [this]
      exact HBX.out.set _
  case done =>
    rintro D xs W hD rfl ⟨⟨hbl, hbx⟩, hbe⟩ hK
    by_cases h0 : xs.map (·.1) = []
    · have hr : textL m (xs.map (·.1)) = m.data.toList := by unfold textL; rw [if_pos h0, List.append_nil]
      have Hr := Aside0.mk hr
      rw [h0, show sepB [] = ⟨#[123]⟩ from rfl] at hbx
      rw [h0, show labs 123 [] = [] from rfl, List.append_nil] at hbl
      have hcb := hbx.cell
      have Hbl := Aside0.mk hbl
      have Hbe := Aside0.mk hbe
      have HK := Aside0.mk hK
      clear hbl hbx hbe hK hr h0
      gi_wp2_with fail
      refine ⟨trivial, ?_⟩
      gi_at_call 29
      refine (callsIn_wide.2 (Try.Builder_String_any_k w.heap.size (w.heap.size + 1) _ W (.of (.inr Hbl.out)) ?_)).mono ?_
      · exact Hbe.out.size
      rintro e W2 ⟨rfl, _, hB2, hk2⟩
      have HK2 := Aside0.mk (hk2 _ _ HK.out (by simp; omega) (by rintro c fz ⟨⟩))
      have HB2 := Aside0.mk hB2
      clear hB2 hk2
      gi_wp2
      refine ⟨by simp, .inl ⟨_, _, rfl, run_takeDeferred HK2.out, ?_⟩⟩
      exact ⟨_, results_tmp rfl _ _ _, ret_str rfl (by first | (rw [Hr.out]; done) | (rw [Hr.out]; simp)), (Hbe.out.trans HB2.out).trans (belowK_b (Nat.le_refl _) _ _ _ _ (by omega) HK2.out rfl rfl)⟩
    · have hr : textL m (xs.map (·.1)) = m.data.toList ++ labs 123 (xs.map (·.1)) ++ [125] := by unfold textL; rw [if_neg h0, List.append_assoc]
      have Hr := Aside0.mk hr
      rw [show sepB (xs.map (·.1)) = ⟨#[44]⟩ from if_neg h0] at hbx
      have hpl : (labs 123 (xs.map (·.1))).length ≤ 4096 * 8194 := Nat.le_trans (labs_len _ _ (fun y hy => by obtain ⟨z, _, rfl⟩ := List.mem_map.1 hy; exact z.2)) (by simp only [List.length_map]; omega)
      have hcb := hbx.cell
      have Hbl := Aside0.mk hbl
      have Hbe := Aside0.mk hbe
      have HK := Aside0.mk hK
      clear hbl hbx hbe hK hr h0
      gi_wp2_with fail
      refine ⟨trivial, ?_⟩
      gi_at_call 27
      refine (callsIn_wide.2 (Bld.writeString w.heap.size (w.heap.size + 1) _ _ W (.inr Hbl.out) ?_ ?_)).mono ?_
      · simp only [Lib.byteCells_length, List.length_append, Array.length_toList, show (ByteArray.mk #[125]).size = 1 from rfl]
        have : m.data.size = m.size := rfl
        omega
      · exact Hbe.out.size
      rintro e W1 ⟨rfl, hbl1, hB1, hk1⟩
      have HK1 := Aside0.mk (hk1 _ _ HK.out (by simp; omega) (by rintro c fz ⟨⟩))
      rw [Lib.strCells_eq, ← Lib.byteCells_append] at hbl1
      have HBL := Aside0.mk hbl1
      have HB1 := Aside0.mk hB1
      clear hbl1 hB1 hk1
      gi_wp2_with fail
      refine ⟨trivial, ?_⟩
      gi_at_call 29
      refine (callsIn_wide.2 (Try.Builder_String_any_k w.heap.size (w.heap.size + 1) _ W1 (.of (.inr HBL.out)) ?_)).mono ?_
      · exact Nat.le_trans Hbe.out.size HB1.out.size
      rintro e W2 ⟨rfl, _, hB2, hk2⟩
      have HK2 := Aside0.mk (hk2 _ _ HK1.out (by simp; omega) (by rintro c fz ⟨⟩))
      have HB2 := Aside0.mk hB2
      clear hB2 hk2
      gi_wp2
      refine ⟨by simp, .inl ⟨_, _, rfl, run_takeDeferred HK2.out, ?_⟩⟩
      exact ⟨_, results_tmp rfl _ _ _, ret_str rfl (by first | (rw [Hr.out]; done) | (rw [Hr.out]; simp)), ((Hbe.out.trans HB1.out).trans HB2.out).trans (belowK_b (Nat.le_refl _) _ _ _ _ (by omega) HK2.out rfl rfl)⟩
  case stop =>
    rintro D c pre W _ _ h _
    exact h.elim

/-- Are a metric and labels short enough for a text of theirs to be told here? -/
def shortS (m : ByteArray) (l : List S32) : Bool := decide (m.size ≤ 4096) && decide (l.length ≤ 4096) && l.all (fun x => decide (x.f0.size ≤ 4096) && decide (x.f1.size ≤ 4096))
-- EXT tidemill/tag.Text plain making
def tag_Text.f (a0_0 : ByteArray) (l0_1 : List S32) : Option (ByteArray) := if shortS a0_0 l0_1 = true then some ⟨(textL a0_0 l0_1).toArray⟩ else none
theorem tag_Text.calls (a0_0 : ByteArray) (A0_1 : Option Addr) (c0_1 : Nat) (l0_1 : List S32) (r : ByteArray) (w : World) (hr0_1 : Kd.C k32 w A0_1 l0_1.length l0_1) (hc0_1 : l0_1.length ≤ c0_1) (h : tag_Text.f a0_0 l0_1 = some r) :
    Calls Try.prog 14 #[.agg #[.string a0_0, .slice A0_1 l0_1.length c0_1]] w fun e w' => e = .returned (.string r) ∧ Below w.heap.size w w' := by
  unfold tag_Text.f at h
  split at h
  · rename_i hs
    obtain rfl := Option.some.inj h
    simp only [shortS, Bool.and_eq_true, decide_eq_true_eq, List.all_eq_true] at hs
    exact text_calls a0_0 A0_1 c0_1 l0_1 w hr0_1 hs.1.1 hs.1.2 hs.2
  · cases h
end Go.Proofs.Ytiddemgeehcjpaa.H
