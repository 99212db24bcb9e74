/- tag.Make: the series of a metric and labels in any order. -/
import Derived.Test.YtiddemgeehcjpaaTagC
import Derived.Test.YtiddemgeehcjpaaShelf
import Derived.WalkLawsBesides
import Derived.Sort.Walk0
import Derived.Sort.LotA
import Derived.Shelf.SlSortCmp.WholeK
import Derived.Shelf.SlSortCmp.NoneTotal
namespace Go.Proofs.Ytiddemgeehcjpaa.H
open Go.RowKit Go.Shelf Go.Proofs.Ytiddemgeehcjpaa.PA Go.Proofs.YtiddemgeehcjpaaW.PrintWords Go.Proofs.YtiddemgeehcjpaaW.PrintLast Go.Proofs.YtiddemgeehcjpaaW.PrintMore
set_option linter.unusedVariables false

set_option maxHeartbeats 1000000 in
theorem isNaN_calls (s : ByteArray) (w : World) : Calls Try.prog 37 #[.string s] w fun e w' => e = .returned (.bool false) ∧ w' = w := by
  go_enter Try.func37, Try.ntmps37
  go_wp2
  go_ret
  exact ⟨rfl, rfl⟩

open Go.Sort in
/-- How two texts stand to each other. -/
def cmpT (a b : ByteArray) : Int := if ltStr a.data.toList b.data.toList = true then -1 else if a.data.toList = b.data.toList then 0 else 1

open Go.Sort in
set_option maxHeartbeats 1000000 in
theorem compare_calls (a b : ByteArray) (w : World) : Calls Try.prog 20 #[.string a, .string b] w fun e w' => e = .returned (.int .i64 (cmpT a b)) ∧ w' = w := by
  have hl : Op.bytesLess a.toList b.toList = ltStr a.data.toList b.data.toList := by rw [bytesLess_eq, Lib.toList_data, Lib.toList_data]; rfl
  have he : (a.toList == b.toList) = decide (a.data.toList = b.data.toList) := by rw [Lib.toList_data, Lib.toList_data, Bool.beq_eq_decide_eq]
  unfold cmpT
  cases h1 : ltStr a.data.toList b.data.toList with
  | true =>
    rw [h1] at hl
    clear he h1
    go_enter Try.func20, Try.ntmps20
    go_wp2_with (go_at_call 37; refine (isNaN_calls _ _).mono ?_; rintro e w' ⟨rfl, rfl⟩)
    go_ret
    exact ⟨rfl, rfl⟩
  | false =>
    rw [h1] at hl
    by_cases h2 : a.data.toList = b.data.toList
    · rw [decide_eq_true h2] at he
      have hr : (if false = true then (-1 : Int) else if a.data.toList = b.data.toList then 0 else 1) = 0 := by rw [if_neg (by decide), if_pos h2]
      rw [hr]
      clear h1 h2 hr
      go_enter Try.func20, Try.ntmps20
      go_wp2_with (go_at_call 37; refine (isNaN_calls _ _).mono ?_; rintro e w' ⟨rfl, rfl⟩)
      go_ret
      exact ⟨rfl, rfl⟩
    · rw [decide_eq_false h2] at he
      have hr : (if false = true then (-1 : Int) else if a.data.toList = b.data.toList then 0 else 1) = 1 := by rw [if_neg (by decide), if_neg h2]
      rw [hr]
      clear h1 h2 hr
      go_enter Try.func20, Try.ntmps20
      go_wp2_with (go_at_call 37; refine (isNaN_calls _ _).mono ?_; rintro e w' ⟨rfl, rfl⟩)
      go_ret
      exact ⟨rfl, rfl⟩

open Go.Sort in
set_option maxHeartbeats 1000000 in
theorem make1_calls (x y : S32) (W : World) : Calls Try.prog 19 #[.agg #[.string x.f0, .string x.f1], .agg #[.string y.f0, .string y.f1]] W fun e w' => e = .returned (.int .i64 (cmpT x.f0 y.f0)) ∧ ∃ q os', w' = grow (W.drewN q) os' := by
  have huL := Try.underlying32
  have hcon := fun W' => compare_calls x.f0 y.f0 W'
  generalize cmpT x.f0 y.f0 = r at hcon ⊢
  go_enter Try.func19, Try.ntmps19
  go_wp2_with (go_at_call 20; refine (hcon _).mono ?_; rintro e w' ⟨rfl, rfl⟩)
  go_ret
  exact ⟨rfl, 0, _, by rw [alloc_eq_grow, alloc_eq_grow, grow_grow]; rfl⟩

instance : Inhabited S32 := ⟨z32⟩
def encL (x : S32) : List Value := [.string x.f0, .string x.f1]
def ltName (x y : S32) : Bool := Go.Sort.ltStr x.f0.data.toList y.f0.data.toList
open Go.Sort in
theorem ltOf_name : ltOf (fun x y : S32 => cmpT x.f0 y.f0) = ltName := by
  funext x y
  show decide (cmpT x.f0 y.f0 < 0) = _
  unfold cmpT ltName
  by_cases h : ltStr x.f0.data.toList y.f0.data.toList = true
  · rw [if_pos h, h]; rfl
  · rw [if_neg h, Bool.eq_false_iff.2 h]
    by_cases h2 : x.f0.data.toList = y.f0.data.toList
    · rw [if_pos h2]; rfl
    · rw [if_neg h2]; rfl
open Go.Sort in
theorem swo_name : SWO ltName := ⟨fun x => swo_ltStr.irrefl _, fun x y z => swo_ltStr.trans _ _ _, fun x y z => swo_ltStr.ntrans _ _ _⟩

theorem cellsL_get (l : List S32) : ∀ t, t < l.length * 2 → (cellsL l)[t]? = some (encL l[t / 2]!)[t % 2]! := by
  induction l with
  | nil => intro t h; simp at h
  | cons x l ih =>
    intro t h
    have e : cellsL (x :: l) = encL x ++ cellsL l := rfl
    rw [e]
    by_cases h2 : t < 2
    · rw [List.getElem?_append_left (by simpa [encL] using h2)]
      have : t = 0 ∨ t = 1 := by omega
      rcases this with rfl | rfl <;> simp [encL]
    · rw [List.getElem?_append_right (by simp [encL]; omega)]
      have hl : (encL x).length = 2 := rfl
      rw [hl, ih (t - 2) (by simp at h; omega)]
      have e1 : t / 2 = (t - 2) / 2 + 1 := by omega
      have e2 : t % 2 = (t - 2) % 2 := by omega
      rw [e1, e2]
      simp

open Go.Sort in
theorem flat_cells (l : List S32) : (flatK encL 2 l.toArray).toList = cellsL l := by
  apply List.ext_getElem?
  intro t
  by_cases h : t < l.length * 2
  · rw [cellsL_get l t h]
    have h1 : t < (flatK encL 2 l.toArray).size := by simpa using h
    have h2 := get_flatK encL 2 l.toArray t (by simpa using h)
    rw [Array.getElem?_toList, Array.getElem?_eq_getElem h1]
    rw [getElem!_pos _ t h1] at h2
    rw [h2]
    simp
  · rw [List.getElem?_eq_none (by simp; omega), List.getElem?_eq_none (by rw [cellsL_length]; omega)]

theorem flat_get_aux {cur : List Value} {L : List Value} {n t : Nat} (ht : cur.take n = L) (h : t < n) : L[t]? = cur[t]? := by rw [← ht, List.getElem?_take, if_pos h]
open Go.Sort in
theorem holds_own {w : World} {g : Nat} {cur : Array Value} {e : TypeId} {l : List S32} (hh : w.heap[g]? = some (.cells cur e (0, 0))) (ht : cur.toList.take (l.length * 2) = cellsL l) : HoldsK encL 2 w g 0 l.toArray := by
  intro t h
  have h' : t < l.length * 2 := by simpa using h
  have h1 : cur[t]? = some (flatK encL 2 l.toArray)[t]! := by
    rw [← Array.getElem?_toList, ← flat_get_aux ht h', ← flat_cells, Array.getElem?_toList, getElem!_pos _ t h]
    exact Array.getElem?_eq_getElem h
  refine ⟨?_, by simp [World.frozen?, hh]⟩
  simp only [World.cell?, hh, Nat.zero_add]
  exact h1

open Go.Sort in
theorem sorted_heap {w : World} {g : Nat} {cur : Array Value} {e : TypeId} {c : Nat} (l l' : List S32) (n : Nat) (os : Array Obj) (hh : w.heap[g]? = some (.cells cur e (0, 0))) (hc : cur.size = c * 2) (hl : l.length ≤ c) (he : l'.length = l.length) :
    ∃ cur', (sortWorldK encL 2 w g 0 n l'.toArray os).heap[g]? = some (.cells cur' e (0, 0)) ∧ cur'.size = c * 2 ∧ cur'.toList.take (l'.length * 2) = cellsL l' := by
  have hg : g < w.heap.size := (Array.getElem?_eq_some_iff.1 hh).1
  refine ⟨putCells id 0 (flatK encL 2 l'.toArray) cur, ?_, ?_, ?_⟩
  · unfold sortWorldK putRowK putRow mapBlock grow Go.Sort.ahead
    rw [Array.getElem?_append_left (by simpa using hg)]
    simp only [Array.getElem?_modify, hh]
    rfl
  · simp [putCells, hc]
  · rw [← flat_cells]
    apply List.ext_getElem?
    intro t
    have hsz : (flatK encL 2 l'.toArray).size = l'.length * 2 := by simp
    by_cases h : t < l'.length * 2
    · have hF : (flatK encL 2 l'.toArray)[t]? = some (flatK encL 2 l'.toArray)[t]! := by
        rw [getElem!_pos _ t (by rw [hsz]; exact h)]
        exact Array.getElem?_eq_getElem _
      rw [List.getElem?_take, if_pos h, Array.getElem?_toList, Array.getElem?_toList, hF]
      unfold putCells
      rw [Array.getElem?_mapIdx, Array.getElem?_eq_getElem (show t < cur.size by omega)]
      simp only [Option.map_some, Nat.zero_le, Nat.zero_add, Nat.sub_zero, true_and, id]
      rw [if_pos (by rw [hsz]; exact h)]
    · rw [List.getElem?_take, if_neg h, List.getElem?_eq_none (by simp; omega)]

open Go.Sort in
theorem sorted_below {w : World} {g n₀ : Nat} (hg : n₀ ≤ g) (hw : n₀ ≤ w.heap.size) (l' : List S32) (n : Nat) (os : Array Obj) : Below n₀ w (sortWorldK encL 2 w g 0 n l'.toArray os) := by
  refine ⟨rfl, rfl, rfl, ?_, fun k hk => ?_⟩
  · unfold sortWorldK putRowK putRow mapBlock grow Go.Sort.ahead
    simp
  · unfold sortWorldK putRowK putRow mapBlock grow Go.Sort.ahead
    rw [Array.getElem?_append_left (by simp; omega)]
    simp only [Array.getElem?_modify]
    rw [if_neg (by omega)]

open Go.Sort in
theorem sortFunc_calls (v : Value) (l : List S32) (n₀ : Nat) (w : World) (hn : n₀ ≤ w.heap.size) (ho : w.ownsRow n₀ 32 2 v l.length (cellsL l)) (hl : l.length ≤ 1000000) :
    Calls Try.prog 35 #[v, .func (.func 19) #[] #[]] w fun e w' => e = .returned (.tuple #[]) ∧ ∃ s : List S32, s.Perm l ∧ (∀ i j (hi : i < j) (hj : j < s.length), ltName s[j] s[i] = false) ∧ w'.ownsRow n₀ 32 2 v s.length (cellsL s) ∧ Below n₀ w w' := by
  have none_ : ∀ p cap, v = .slice p 0 cap → l = [] → Calls Try.prog 35 #[v, .func (.func 19) #[] #[]] w fun e w' => e = .returned (.tuple #[]) ∧ ∃ s : List S32, s.Perm l ∧ (∀ i j (hi : i < j) (hj : j < s.length), ltName s[j] s[i] = false) ∧ w'.ownsRow n₀ 32 2 v s.length (cellsL s) ∧ Below n₀ w w' := by
    rintro p cap rfl rfl
    have hcon := AnyF.slices_SortFunc_none Try.sortL p cap (.func (.func 19) #[] #[]) w
    exact hcon.mono fun e w' ⟨he, hw⟩ => ⟨he, [], .refl _, fun i j hi hj => by simp at hj, by rw [hw]; exact ho, by rw [hw]; exact Below.refl _ _⟩
  rcases ho.2 with ⟨hv, h0⟩ | ⟨g, cap, cur, hv, hg, hh, hnc, hcm, hcs, ht⟩
  · exact none_ none 0 hv (List.length_eq_zero_iff.1 h0)
  · by_cases h0 : l = []
    · exact none_ _ _ (by rw [hv, h0]; rfl) h0
    · subst hv
      have hgl : g < w.heap.size := (Array.getElem?_eq_some_iff.1 hh).1
      have eg : ∀ args w, (callFunc 19 args).run Try.prog w = .ok (.enter 19 args) w := enters_of Try.func19 (by kernel_rfl) rfl
      have hcon := AnyQ.slices_SortFunc Try.sortL 2 Try.isAgg32 Try.sizeOf32 encL (fun _ => rfl) (fun x v hv => by simp [encL] at hv; rcases hv with rfl | rfl <;> rfl) (fun x y => cmpT x.f0 y.f0) (by rw [ltOf_name]; exact swo_name) 19 #[] g 0 cap l.toArray w eg (fun _ _ _ _ x y => make1_calls x y _) (holds_own hh ht) hgl (by simp; omega)
      change Calls Try.prog 35 _ _ _ at hcon
      rw [ltOf_name] at hcon
      refine hcon.mono ?_
      rintro e w' ⟨he, d', n, os, hp, hs, rfl⟩
      obtain ⟨s, hs'⟩ : ∃ s : List S32, s.toArray = d' := ⟨d'.toList, by simp⟩
      subst hs'
      obtain ⟨hsz, _, hperm⟩ := hp
      have hlen : s.length = l.length := by simpa using hsz
      have hperm' : s.Perm l := by
        have e1 : (s.toArray.extract 0 l.toArray.size).toList = s := by simp [← hlen]
        have e2 : (l.toArray.extract 0 l.toArray.size).toList = l := by simp
        rwa [e1, e2] at hperm
      obtain ⟨cur', h1, h2, h3⟩ := sorted_heap l s n os hh hcs hnc hlen
      refine ⟨he, s, hperm', fun i j hi hj => ?_, ⟨cellsL_length s, .inr ⟨g, cap, cur', by rw [hlen], hg, h1, by omega, hcm, h2, h3⟩⟩, sorted_below hg hn s n os⟩
      have := hs i j (Nat.zero_le _) hi (by simpa [hlen] using hj)
      rwa [getElem!_pos _ j (by simpa using hj), getElem!_pos _ i (by simp; omega)] at this

set_option maxHeartbeats 1000000 in
theorem sortedFunc_calls (A : Option Addr) (c : Nat) (l : List S32) (w : World) (Bs : Nat) (hBs : Bs < w.heap.size) (hB1 : w.cell? ⟨Bs, 0, none⟩ = some (.slice A l.length c)) (hC : Kd.C k32 w A l.length l) (hl : l.length ≤ 1000000) :
    Calls Try.prog 17 #[.func (.func 36) #[] #[.pointer (some ⟨Bs, 0, none⟩)], .func (.func 19) #[] #[]] w fun e w' => ∃ v, e = .returned v ∧ ∃ s : List S32, s.Perm l ∧ (∀ i j (hi : i < j) (hj : j < s.length), ltName s[j] s[i] = false) ∧ w'.ownsRow w.heap.size 32 2 v s.length (cellsL s) ∧ Below w.heap.size w w' := by
  have hcon := collect_calls A c l w Bs hBs hB1 hC hl
  clear hB1 hC
  go_enter Try.func17, Try.ntmps17
  go_wp2_with fail
  go_at_call 34
  refine hcon.mono ?_
  rintro e w1 ⟨v, rfl, ho, hb⟩
  have hcon2 := sortFunc_calls v l w.heap.size w1 hb.size ho hl
  have HB := Aside0.mk hb
  clear ho hb hcon
  go_wp2_with fail
  go_at_call 35
  refine hcon2.mono ?_
  rintro e w2 ⟨rfl, s, hp, hs, ho, hb⟩
  have HX := Aside0.mk (And.intro hp (And.intro hs (And.intro ho hb)))
  clear hp hs ho hb hcon2
  go_wp2
  go_ret
  exact ⟨v, rfl, s, HX.out.1, HX.out.2.1, HX.out.2.2.1, HB.out.trans HX.out.2.2.2⟩
end Go.Proofs.Ytiddemgeehcjpaa.H
