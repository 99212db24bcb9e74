/- A rack's put. Laid by wip/racks2_bl.py. -/
import Derived.Test.YtdooajmgfoobfaaGreatDoorRkC
import Derived.Lib.Bytealg
import Derived.Test.YtdooajmgfoobfaaGreatDoorZz
namespace Go.Proofs.YtdooajmgfoobfaaGreatDoor.H
open Go.RowKit Go.Proofs.YtdooajmgfoobfaaGreatDoor.PA Go.Proofs.YtdooajmgfoobfaaGreatDoorW.PrintWords Go.Proofs.YtdooajmgfoobfaaGreatDoorW.PrintLast Go.Proofs.YtdooajmgfoobfaaGreatDoorW.PrintMore
set_option linter.unusedVariables false
set_option linter.unusedSimpArgs false
/-- How two names stand to each other. -/
def cmpS (a b : ByteArray) : Int := Lib.compareBytes a.data.toList b.data.toList
theorem cmpB_eq : ∀ (a b : List UInt8), Lib.compareBytes a b = 0 ↔ a = b
  | [], [] => by simp [Lib.compareBytes]
  | [], _ :: _ => by simp [Lib.compareBytes]
  | _ :: _, [] => by simp [Lib.compareBytes]
  | x :: a, y :: b => by
    unfold Lib.compareBytes
    have ih := cmpB_eq a b
    by_cases h1 : x < y
    · have : x ≠ y := fun e => by subst e; exact UInt8.lt_irrefl x h1
      simp [h1, this]
    · by_cases h2 : y < x
      · have : x ≠ y := fun e => by subst e; exact UInt8.lt_irrefl x h2
        simp [h1, h2, this]
      · have : x = y := UInt8.le_antisymm (UInt8.not_lt.1 h2) (UInt8.not_lt.1 h1)
        subst this
        rw [if_neg h1, if_neg h1, ih]
        simp
theorem cmpB_anti : ∀ (a b : List UInt8), Lib.compareBytes a b < 0 ↔ Lib.compareBytes b a > 0
  | [], [] => by simp [Lib.compareBytes]
  | [], _ :: _ => by simp [Lib.compareBytes]
  | _ :: _, [] => by simp [Lib.compareBytes]
  | x :: a, y :: b => by
    unfold Lib.compareBytes
    have ih := cmpB_anti a b
    by_cases h1 : x < y
    · have h2 : ¬ y < x := fun h => UInt8.lt_irrefl x (UInt8.lt_trans h1 h)
      simp [h1, h2]
    · by_cases h2 : y < x
      · simp [h1, h2]
      · rw [if_neg h1, if_neg h2, if_neg h2, if_neg h1, ih]
theorem cmpB_trans : ∀ (a b c : List UInt8), Lib.compareBytes a b < 0 → Lib.compareBytes b c < 0 → Lib.compareBytes a c < 0
  | [], [], _ => by simp [Lib.compareBytes]
  | [], _ :: _, [] => by simp [Lib.compareBytes]
  | [], _ :: _, _ :: _ => by simp [Lib.compareBytes]
  | _ :: _, [], _ => by simp [Lib.compareBytes]
  | _ :: _, _ :: _, [] => by simp [Lib.compareBytes]
  | x :: a, y :: b, z :: c => by
    intro p q
    unfold Lib.compareBytes at p q ⊢
    have ih := cmpB_trans a b c
    by_cases h1 : x < y
    · by_cases h2 : y < z
      · simp [UInt8.lt_trans h1 h2]
      · rw [if_neg h2] at q
        by_cases h3 : z < y
        · rw [if_pos h3] at q; omega
        · have : y = z := UInt8.le_antisymm (UInt8.not_lt.1 h3) (UInt8.not_lt.1 h2)
          subst this
          simp [h1]
    · rw [if_neg h1] at p
      by_cases h2 : y < x
      · rw [if_pos h2] at p; omega
      · rw [if_neg h2] at p
        have : x = y := UInt8.le_antisymm (UInt8.not_lt.1 h2) (UInt8.not_lt.1 h1)
        subst this
        by_cases h3 : x < z
        · simp [h3]
        · rw [if_neg h3] at q ⊢
          by_cases h4 : z < x
          · rw [if_pos h4] at q; omega
          · rw [if_neg h4] at q ⊢
            exact ih p q
theorem ba_ext {a b : ByteArray} (h : a.data.toList = b.data.toList) : a = b := by
  cases a with | mk x => cases b with | mk y => cases x with | mk l => cases y with | mk m => simp at h; rw [h]
theorem cmpS_ok : Tr.Cmp cmpS := ⟨fun a b => by unfold cmpS; rw [cmpB_eq]; exact ⟨ba_ext, fun e => by rw [e]⟩, fun a b => cmpB_anti _ _, fun a b c => cmpB_trans _ _ _⟩
set_option maxRecDepth 100000 in
theorem compareB_calls (a b : ByteArray) (w : World) : Calls Tryz.prog 33 #[.string a, .string b] w fun e w' => e = .returned (.int .i64 (cmpS a b)) ∧ w' = w := by
  go_enter Tryz.func33, Tryz.ntmps33
  go_wp2
  rw [run_callFunc_extern Tryz.func61 (by kernel_rfl) (by kernel_rfl) (by kernel_rfl) (e := Extern.BytealgCompare.compare) (by kernel_rfl), Lib.run_compareString]
  simp only [Result.andThen]
  rw [Oper.upon_value]
  go_wp2
  go_ret
  exact ⟨rfl, rfl⟩
set_option maxRecDepth 100000 in
theorem compare_calls (a b : ByteArray) (w : World) : Calls Tryz.prog 17 #[.string a, .string b] w fun e w' => e = .returned (.int .i64 (cmpS a b)) ∧ w' = w := by
  go_enter Tryz.func17, Tryz.ntmps17
  go_wp2_with (go_at_call 33; refine (compareB_calls _ _ _).mono ?_; rintro e w' ⟨rfl, rfl⟩)
  go_ret
  exact ⟨rfl, rfl⟩
section
variable {P : Program} {ops : Array Oper} {Q : Exit → Act → World → Prop}
/-- A call through a function value, in a region that draws its order. -/
theorem goesV_ {oi : Oper} {N : Option Tmp} {a : Act} {w : World} {K : Act → World → Prop} {f : FuncId} {fn : Func} {q : Operand} {lb : Array Value} {ars : Array Operand} {ts : Array TypeId} (hf : P.funcs[f]? = some fn) (hname : (fn.name == "runtime.NumGoroutine") = false) (hb : fn.body.isSome = true) (args args' : Array Value)
    (hw : Region.wanted oi (yielded ops a.tmps) = true) (hN : oi.dst = N) (hop : oi.op = .call { callee := .value q, args := ars, argTypes := ts }) (hq : a.eval q = .func (.func f) #[] lb) (hargs : ars.map a.eval = args) (hl : args ++ lb = args')
    (h : Calls P f args' w fun e w' => ∃ v, e = .returned v ∧ K (a.put N v) w') : if Region.wanted oi (yielded ops a.tmps) = true then Oper.wp P oi a w K Q else K (a.put N undef) w := by
  refine call_ f args' hw hN ?_ h
  have he := enters_ hf hname hb args' w
  unfold execOp
  simp [hop, resolve, hq, Deferred.ofValue, invoke, hargs, hl, he]
end
end Go.Proofs.YtdooajmgfoobfaaGreatDoor.H
namespace Go.Proofs.YtdooajmgfoobfaaGreatDoor.H
open Go.RowKit Go.Proofs.YtdooajmgfoobfaaGreatDoor.PA Go.Proofs.YtdooajmgfoobfaaGreatDoorW.PrintWords Go.Proofs.YtdooajmgfoobfaaGreatDoorW.PrintLast Go.Proofs.YtdooajmgfoobfaaGreatDoorW.PrintMore
set_option linter.unusedVariables false
set_option linter.unusedSimpArgs false
/-- The rack's order, as a function value. -/
abbrev cmpV : Value := .func (.func 17) #[] #[]
/-- A file as a value. -/
abbrev FV.val (v : FV) : Value := .agg #[.slice v.A v.n v.c, .int .i64 v.s]
theorem Tr.put_len {α : Type} {cmp : ByteArray → ByteArray → Int} {nb : Nat} {k : ByteArray} {v : α} : ∀ (t : Tr α), (Tr.put cmp nb k v t).toL.length ≤ t.toL.length + 1
 | .nil => by simp [Tr.put, Tr.mk, Tr.toL]
 | .node b k' v' l r h m => by
  have h1 := Tr.put_len (cmp := cmp) (nb := nb) (k := k) (v := v) l
  have h2 := Tr.put_len (cmp := cmp) (nb := nb) (k := k) (v := v) r
  unfold Tr.put
  split
  ·rw [Tr.even_toL]; simp only [Tr.toL, List.length_append, List.length_cons]; omega
  ·split
   ·rw [Tr.even_toL]; simp only [Tr.toL, List.length_append, List.length_cons]; omega
   ·rw [Tr.even_toL]; simp only [Tr.toL, List.length_append, List.length_cons]; omega
def q60.T5 : Bool × List (List Nat × List Nat) := (true, [([], []), ([0], [0]), ([1], [1]), ([2], [2]), ([], []), ([], []), ([5], [5]), ([6], [6]), ([7], [7]), ([3, 4, 8], [3, 4, 8]), ([9, 9, 0, 1, 2, 3, 4, 5, 6, 7, 8, 9], [9])])
def q60.B5 : List Nat := [0, 1, 3, 7, 0, 0, 32, 96, 224, 511, 1023]
theorem q60.tab5 : rtab .any (opsOf Tryz.f60 5) = q60.T5 := by kernel_rfl
theorem q60.bits5 : waitsOk q60.T5.2 q60.B5 = true := by kernel_rfl
def q60.T8 : Bool × List (List Nat × List Nat) := (true, [([], []), ([], []), ([], []), ([2], [2]), ([3], [3]), ([4], [4]), ([], []), ([], []), ([1, 5, 6, 7], [1, 5, 6, 7]), ([8], [8]), ([9], [9]), ([9], [9]), ([0, 0, 1, 2, 3, 4, 5, 6, 7, 8, 9, 10], [0]), ([12, 0, 1, 2, 3, 4, 5, 6, 7, 8, 9, 10], [12]), ([13, 10, 8, 0, 1, 2, 3, 4, 5, 6, 7, 8, 9, 10], [10, 13]), ([11, 14, 0, 1, 2, 3, 4, 5, 6, 7, 8, 9, 10, 11, 12, 13, 14], [11])])
def q60.B8 : List Nat := [0, 0, 0, 4, 12, 28, 0, 0, 254, 510, 1022, 1022, 2047, 6143, 14335, 32767]
theorem q60.tab8 : rtab .any (opsOf Tryz.f60 8) = q60.T8 := by kernel_rfl
theorem q60.bits8 : waitsOk q60.T8.2 q60.B8 = true := by kernel_rfl
def q60.T10 : Bool × List (List Nat × List Nat) := (true, [([], []), ([], []), ([], []), ([2], [2]), ([3], [3]), ([4], [4]), ([], []), ([], []), ([1, 5, 6, 7], [1, 5, 6, 7]), ([8], [8]), ([9], [9]), ([9], [9]), ([0, 0, 1, 2, 3, 4, 5, 6, 7, 8, 9, 10], [0]), ([12, 0, 1, 2, 3, 4, 5, 6, 7, 8, 9, 10], [12]), ([13, 10, 8, 0, 1, 2, 3, 4, 5, 6, 7, 8, 9, 10], [10, 13]), ([11, 14, 0, 1, 2, 3, 4, 5, 6, 7, 8, 9, 10, 11, 12, 13, 14], [11])])
def q60.B10 : List Nat := [0, 0, 0, 4, 12, 28, 0, 0, 254, 510, 1022, 1022, 2047, 6143, 14335, 32767]
theorem q60.tab10 : rtab .any (opsOf Tryz.f60 10) = q60.T10 := by kernel_rfl
theorem q60.bits10 : waitsOk q60.T10.2 q60.B10 = true := by kernel_rfl
set_option maxRecDepth 100000 in
set_option maxHeartbeats 8000000 in
theorem put_nil (w : World) (rk : Nat) (k : ByteArray) (v : FV) :
  Calls Tryz.prog 60 #[.pointer (some ⟨rk, 0, none⟩), .pointer (Tr.adr (.nil : Tr FV)), .string k, v.val] w fun e w' => ∃ nb, w.heap.size ≤ nb ∧ e = .returned (.tuple #[.pointer (Tr.put cmpS nb k v (.nil : Tr FV)).adr, .bool (Tr.had cmpS k (.nil : Tr FV))]) ∧ Mut (fun i => i ∈ Tr.ids (.nil : Tr FV)) w w' ∧ At w' (Tr.put cmpS nb k v .nil) := by
 have hc := fun W hb => count_calls W (w.heap.size + 1) k v .nil .nil 0 0 hb trivial trivial (by simp [Tr.hi]) (by simp [Tr.hi]) (by simp [Tr.many]) (by simp [Tr.many]) (by simp [Tr.ids]) (by simp [Tr.ids])
 simp only [Tr.adr]
 go_enter Tryz.func60, Tryz.ntmps60
 go_upto_region 3 with fail
 have hB : Below w.heap.size w ((w.alloc (.cells #[.slice v.A v.n v.c, .int .i64 v.s] 51)).alloc (.cells #[.string k, .slice v.A v.n v.c, .int .i64 v.s, .pointer none, .pointer none, .int .i64 0, .int .i64 0] 121)) := ((Below.refl _ w).alloc (Nat.le_refl _) _).alloc (by simp) _
 have hN : ((w.alloc (.cells #[.slice v.A v.n v.c, .int .i64 v.s] 51)).alloc (.cells #[.string k, .slice v.A v.n v.c, .int .i64 v.s, .pointer none, .pointer none, .int .i64 0, .int .i64 0] 121)).heap[w.heap.size + 1]? = some (.cells (nodeC k v none none 0 0) 121 (0, 0)) := by
  have := heap_alloc_new (w.alloc (.cells #[.slice v.A v.n v.c, .int .i64 v.s] 51)) (.cells #[.string k, .slice v.A v.n v.c, .int .i64 v.s, .pointer none, .pointer none, .int .i64 0, .int .i64 0] 121)
  rwa [World.size_alloc] at this
 have HB := Aside0.mk hB
 have HN := Aside0.mk hN
 clear hB hN
 generalize ((w.alloc (.cells #[.slice v.A v.n v.c, .int .i64 v.s] 51)).alloc (.cells #[.string k, .slice v.A v.n v.c, .int .i64 v.s, .pointer none, .pointer none, .int .i64 0, .int .i64 0] 121)) = W at HB HN ⊢
 have hc := hc W HN.out
 go_wp2_with (go_at_call 77; refine (show Calls _ _ _ _ _ from hc).mono ?_; rintro e w1 ⟨rfl, hM, hK⟩; have n_M := Aside0.mk hM; have n_K := Aside0.mk hK; clear hM hK hc)
 exact bodyPost_ret (v := .tuple #[.pointer (some ⟨w.heap.size + 1, 0, none⟩), .bool false]) (by simp [results, Tryz.results60, go_sem]) rfl ⟨w.heap.size + 1, Nat.le_succ _, rfl, (Mut.of_below (F := fun i => i ∈ Tr.ids (.nil : Tr FV)) HB.out).trans n_M.out (fun _ e => e) (fun i e hi => by subst e; omega), n_K.out, trivial, trivial⟩
set_option maxRecDepth 100000 in
set_option maxHeartbeats 8000000 in
theorem put_calls (rk : Nat) (k : ByteArray) (v : FV) (x : Value) : ∀ (t : Tr FV) (w : World), w.heap[rk]? = some (.cells #[cmpV, x] 79 (0, 0)) → At w t → t.wf → t.toL.length + 1 ≤ 1000 → t.ids.Nodup → rk ∉ t.ids →
  Calls Tryz.prog 60 #[.pointer (some ⟨rk, 0, none⟩), .pointer (Tr.adr t), .string k, v.val] w fun e w' => ∃ nb, w.heap.size ≤ nb ∧ e = .returned (.tuple #[.pointer (Tr.put cmpS nb k v t).adr, .bool (Tr.had cmpS k t)]) ∧ Mut (fun i => i ∈ Tr.ids t) w w' ∧ At w' (Tr.put cmpS nb k v t) := by
 intro t
 induction t with
 | nil => exact fun w _ _ _ _ _ _ => put_nil w rk k v
 | node b k' v' l r h m ihl ihr =>
  intro w hr hat hwf hlen hnd hrk
  obtain ⟨m1, m2, m3, m4, m5⟩ := nd3 hnd
  have hrk' : rk ≠ b ∧ rk ∉ l.ids ∧ rk ∉ r.ids := by simp only [Tr.ids, List.mem_append, List.mem_cons, not_or] at hrk; exact ⟨hrk.2.1, hrk.1, hrk.2.2⟩
  have MM := Aside0.mk (And.intro m1 (And.intro m2 (And.intro m3 (And.intro m4 m5))))
  have RR := Aside0.mk hrk'
  have ND := Aside0.mk hnd
  have WL := Aside0.mk hwf.2.2.1
  have WR := Aside0.mk hwf.2.2.2
  have ZZ := Aside0.mk (show l.toL.length + r.toL.length + 2 ≤ 1000 by simp only [Tr.toL, List.length_append, List.length_cons] at hlen; omega)
  have LT := Aside0.mk hat.lt
  have hB : Below w.heap.size w (w.alloc (.cells #[.slice v.A v.n v.c, .int .i64 v.s] 51)) := (Below.refl _ w).alloc (Nat.le_refl _) _
  have HK := Aside0.mk (blk_below hat.node hB)
  have HRK := Aside0.mk (blk_below hr hB)
  have HL := Aside0.mk (At.keep hat.left (fun i _ hi => hB.block i hi))
  have HR := Aside0.mk (At.keep hat.right (fun i _ hi => hB.block i hi))
  have HBX := Aside0.mk (heap_alloc_new w (.cells #[.slice v.A v.n v.c, .int .i64 v.s] 51))
  have HD := Aside0.mk (Mut.of_below (F := fun i => i ∈ Tr.ids (.node b k' v' l r h m)) hB)
  clear hB m1 m2 m3 m4 m5 hrk' hnd hwf hlen hat hr hrk
  simp only [Tr.adr]
  go_enter Tryz.func60, Tryz.ntmps60
  go_upto_region 5 with fail
  obtain ⟨W, hW⟩ : ∃ W, W = w.alloc (.cells #[.slice v.A v.n v.c, .int .i64 v.s] 51) := ⟨_, rfl⟩
  rw [← hW] at HK HRK HL HR HBX HD ⊢
  clear hW
  obtain ⟨bx, hbx⟩ : ∃ bx, bx = w.heap.size := ⟨_, rfl⟩
  have HX := Aside0.mk hbx
  rw [← hbx] at HBX ⊢
  clear hbx
  have n_K := Aside0.mk (blk_drew HK.out)
  have n_RK := Aside0.mk (blk_drew HRK.out)
  have n_L := Aside0.mk (At.keep (w' := W.drew) HL.out (fun _ _ _ => rfl))
  have n_R := Aside0.mk (At.keep (w' := W.drew) HR.out (fun _ _ _ => rfl))
  have n_BX := Aside0.mk (blk_drew HBX.out)
  have n_D := Aside0.mk HD.out.drew
  clear HK HRK HL HR HBX HD
  refine wp_mono (Q := fun e a w => e = .normal ∧ _) ?_ (fun e a w h => h.2)
  refine start_ (n := 11) (S := fun w' => w'.cell? ⟨rk, 0, none⟩ = some cmpV ∧ w'.cell? ⟨b, 0, none⟩ = some (.string k')) (ds := []) #[ff,ff,ff,ff,ff,ff,ff,ff,ff,ff,ff] (by kernel_rfl) rfl rfl ⟨((blk_cell n_RK.out 0).trans rfl), ((blk_cell n_K.out 0).trans rfl)⟩ (fun hHeld => ?_)
  refine with_tabW q60.tab5 q60.bits5 (fun HT_ HW_ => ?_)
  refine pure_ (i := 0) (N := some 20) (v := ?_) (a' := ?_) #[tt,ff,ff,ff,ff,ff,ff,ff,ff,ff,ff] rfl rfl (any_of HT_.out (by kernel_rfl)) (fun _ _ _ h => nomatch h.1) (Or.inl ⟨by rfl, ?_⟩) ?_ ?_
  rotate_left
  ·intro w'
   go_simp
   with_reducible rfl
  rotate_left
  ·simp only [Act.put, sA, sB, sC, i64_w, i32_w]
   rfl
  refine pure_ (i := 1) (N := some 21) (v := ?_) (a' := ?_) #[tt,tt,ff,ff,ff,ff,ff,ff,ff,ff,ff] rfl rfl (any_of HT_.out (by kernel_rfl)) (fun _ _ _ h => nomatch h.1) (Or.inl ⟨by rfl, ?_⟩) ?_ ?_
  rotate_left
  ·intro w'
   go_simp
   with_reducible rfl
  rotate_left
  ·simp only [Act.put, sA, sB, sC, i64_w, i32_w]
   rfl
  refine pure_ (i := 2) (N := some 22) (v := ?_) (a' := ?_) #[tt,tt,tt,ff,ff,ff,ff,ff,ff,ff,ff] rfl rfl (any_of HT_.out (by kernel_rfl)) (fun _ _ _ h => nomatch h.1) (Or.inl ⟨by rfl, ?_⟩) ?_ ?_
  rotate_left
  ·intro w'
   go_simp
   with_reducible rfl
  rotate_left
  ·simp only [Act.put, sA, sB, sC, i64_w, i32_w]
   rfl
  refine pure_ (i := 4) (N := some 24) (v := ?_) (a' := ?_) #[tt,tt,tt,ff,tt,ff,ff,ff,ff,ff,ff] rfl rfl (any_of HT_.out (by kernel_rfl)) (fun _ _ _ h => nomatch h.1) (Or.inl ⟨by rfl, ?_⟩) ?_ ?_
  rotate_left
  ·intro w'
   go_simp
   with_reducible rfl
  rotate_left
  ·simp only [Act.put, sA, sB, sC, i64_w, i32_w]
   rfl
  refine pure_ (i := 5) (N := some 25) (v := ?_) (a' := ?_) #[tt,tt,tt,ff,tt,tt,ff,ff,ff,ff,ff] rfl rfl (any_of HT_.out (by kernel_rfl)) (fun _ _ _ h => nomatch h.1) (Or.inl ⟨by rfl, ?_⟩) ?_ ?_
  rotate_left
  ·intro w'
   go_simp
   with_reducible rfl
  rotate_left
  ·simp only [Act.put, sA, sB, sC, i64_w, i32_w]
   rfl
  refine pure_ (i := 6) (N := some 26) (v := ?_) (a' := ?_) #[tt,tt,tt,ff,tt,tt,tt,ff,ff,ff,ff] rfl rfl (any_of HT_.out (by kernel_rfl)) (fun _ _ _ h => nomatch h.1) (Or.inl ⟨by rfl, ?_⟩) ?_ ?_
  rotate_left
  ·intro w'
   go_simp
   with_reducible rfl
  rotate_left
  ·simp only [Act.put, sA, sB, sC, i64_w, i32_w]
   rfl
  refine pure_ (i := 7) (N := some 27) (v := ?_) (a' := ?_) #[tt,tt,tt,ff,tt,tt,tt,tt,ff,ff,ff] rfl rfl (any_of HT_.out (by kernel_rfl)) (fun _ _ _ h => nomatch h.1) (Or.inl ⟨by rfl, ?_⟩) ?_ ?_
  rotate_left
  ·intro w'
   go_simp
   with_reducible rfl
  rotate_left
  ·simp only [Act.put, sA, sB, sC, i64_w, i32_w]
   rfl
  refine take_ (i := 3) (N := some 23) (v := ?_) (a' := ?_) #[tt,tt,tt,tt,tt,tt,tt,tt,ff,ff,ff] rfl rfl (take_ofW HT_.out HW_.out (by kernel_rfl)) (fun _ _ _ h => nomatch h.1) (Or.inl ⟨by rfl, ?_⟩) hHeld ?_ ?_
  rotate_left
  ·rintro w' ⟨s0, s1⟩
   go_simp
   with_reducible rfl
  rotate_left
  ·simp only [Act.put, sA, sB, sC, i64_w, i32_w]
   rfl
  refine take_ (i := 8) (N := some 28) (v := ?_) (a' := ?_) #[tt,tt,tt,tt,tt,tt,tt,tt,tt,ff,ff] rfl rfl (take_ofW HT_.out HW_.out (by kernel_rfl)) (fun _ _ _ h => nomatch h.1) (Or.inl ⟨by rfl, ?_⟩) hHeld ?_ ?_
  rotate_left
  ·rintro w' ⟨s0, s1⟩
   go_simp
   with_reducible rfl
  rotate_left
  ·simp only [Act.put, sA, sB, sC, i64_w, i32_w]
   rfl
  refine one_ (i := 9) (N := some 29) #[tt,tt,tt,tt,tt,tt,tt,tt,tt,tt,ff] rfl rfl (one_of HT_.out (by kernel_rfl)) (by decide) (fun K hK => ?_)
  refine goesV_ Tryz.func17 (by kernel_rfl) rfl #[.string k, .string k'] #[.string k, .string k'] (by rfl) rfl rfl (by rfl) (by simp only [List.map_toArray, List.map_cons, List.map_nil]; rfl) (by rfl) ?_
  with_reducible refine (compare_calls k k' _).mono ?_
  rintro e w1 ⟨rfl, rfl⟩
  refine ⟨_, rfl, ?_⟩
  refine hK.out _ _ ⟨((blk_cell n_RK.out 0).trans rfl), ((blk_cell n_K.out 0).trans rfl)⟩ (fun hHeld => ?_)
  clear hK K
  refine norm_ (a' := ?_) ?_ ?_
  rotate_left
  ·show Act.put _ (some 29) _ = _
   simp only [Act.put, sA, sB, sC, i64_w, i32_w]
   rfl
  refine pure_ (i := 10) (N := some 11) (v := ?_) (a' := ?_) #[tt,tt,tt,tt,tt,tt,tt,tt,tt,tt,tt] rfl rfl (any_of HT_.out (by kernel_rfl)) (fun _ _ _ h => nomatch h.1) (Or.inl ⟨by rfl, ?_⟩) ?_ ?_
  rotate_left
  ·intro w'
   go_simp
   with_reducible rfl
  rotate_left
  ·simp only [Act.put, sA, sB, sC, i64_w, i32_w]
   rfl
  refine done_ (done_of HT_.out (by kernel_rfl)) ?_
  refine ⟨rfl, ?_⟩
  clear hHeld HT_ HW_
  generalize W.drew = W1 at n_K n_RK n_L n_R n_BX n_D ⊢
  by_cases h1 : cmpS k k' < 0
  ·have hb1 : decide (cmpS k k' < 0) = true := decide_eq_true h1
   go_upto_region 8 with fail
   have d_K := Aside0.mk (blk_drew n_K.out)
   have d_RK := Aside0.mk (blk_drew n_RK.out)
   have d_L := Aside0.mk (At.keep (w' := W1.drew) n_L.out (fun _ _ _ => rfl))
   have d_R := Aside0.mk (At.keep (w' := W1.drew) n_R.out (fun _ _ _ => rfl))
   have d_BX := Aside0.mk (blk_drew n_BX.out)
   have d_D := Aside0.mk n_D.out.drew
   clear n_K n_RK n_L n_R n_BX n_D
   refine wp_mono (Q := fun e a w => e = .normal ∧ _) ?_ (fun e a w h => h.2)
   refine start_ (n := 16) (S := fun w' => w'.cell? ⟨b, 3, none⟩ = some (.pointer l.adr) ∧ w'.cell? ⟨bx, 0, none⟩ = some (.slice v.A v.n v.c) ∧ w'.cell? ⟨bx, 1, none⟩ = some (.int .i64 v.s)) (ds := [14]) #[ff,ff,ff,ff,ff,ff,ff,ff,ff,ff,ff,ff,ff,ff,ff,ff] (by kernel_rfl) rfl rfl ⟨((blk_cell d_K.out 3).trans rfl), ((blk_cell d_BX.out 0).trans rfl), ((blk_cell d_BX.out 1).trans rfl)⟩ (fun hHeld => ?_)
   refine with_tabW q60.tab8 q60.bits8 (fun HT_ HW_ => ?_)
   refine pure_ (i := 0) (N := some 38) (v := ?_) (a' := ?_) #[tt,ff,ff,ff,ff,ff,ff,ff,ff,ff,ff,ff,ff,ff,ff,ff] rfl rfl (any_of HT_.out (by kernel_rfl)) (fun _ _ _ h => nomatch h.1) (Or.inl ⟨by rfl, ?_⟩) ?_ ?_
   rotate_left
   ·intro w'
    go_simp
    with_reducible rfl
   rotate_left
   ·simp only [Act.put, sA, sB, sC, i64_w, i32_w]
    rfl
   refine pure_ (i := 1) (N := some 39) (v := ?_) (a' := ?_) #[tt,tt,ff,ff,ff,ff,ff,ff,ff,ff,ff,ff,ff,ff,ff,ff] rfl rfl (any_of HT_.out (by kernel_rfl)) (fun _ _ _ h => nomatch h.1) (Or.inl ⟨by rfl, ?_⟩) ?_ ?_
   rotate_left
   ·intro w'
    go_simp
    with_reducible rfl
   rotate_left
   ·simp only [Act.put, sA, sB, sC, i64_w, i32_w]
    rfl
   refine pure_ (i := 2) (N := some 40) (v := ?_) (a' := ?_) #[tt,tt,tt,ff,ff,ff,ff,ff,ff,ff,ff,ff,ff,ff,ff,ff] rfl rfl (any_of HT_.out (by kernel_rfl)) (fun _ _ _ h => nomatch h.1) (Or.inl ⟨by rfl, ?_⟩) ?_ ?_
   rotate_left
   ·intro w'
    go_simp
    with_reducible rfl
   rotate_left
   ·simp only [Act.put, sA, sB, sC, i64_w, i32_w]
    rfl
   refine pure_ (i := 3) (N := some 41) (v := ?_) (a' := ?_) #[tt,tt,tt,tt,ff,ff,ff,ff,ff,ff,ff,ff,ff,ff,ff,ff] rfl rfl (any_of HT_.out (by kernel_rfl)) (fun _ _ _ h => nomatch h.1) (Or.inl ⟨by rfl, ?_⟩) ?_ ?_
   rotate_left
   ·intro w'
    go_simp
    with_reducible rfl
   rotate_left
   ·simp only [Act.put, sA, sB, sC, i64_w, i32_w]
    rfl
   refine pure_ (i := 4) (N := some 42) (v := ?_) (a' := ?_) #[tt,tt,tt,tt,tt,ff,ff,ff,ff,ff,ff,ff,ff,ff,ff,ff] rfl rfl (any_of HT_.out (by kernel_rfl)) (fun _ _ _ h => nomatch h.1) (Or.inl ⟨by rfl, ?_⟩) ?_ ?_
   rotate_left
   ·intro w'
    go_simp
    with_reducible rfl
   rotate_left
   ·simp only [Act.put, sA, sB, sC, i64_w, i32_w]
    rfl
   refine pure_ (i := 6) (N := some 44) (v := ?_) (a' := ?_) #[tt,tt,tt,tt,tt,ff,tt,ff,ff,ff,ff,ff,ff,ff,ff,ff] rfl rfl (any_of HT_.out (by kernel_rfl)) (fun _ _ _ h => nomatch h.1) (Or.inl ⟨by rfl, ?_⟩) ?_ ?_
   rotate_left
   ·intro w'
    go_simp
    with_reducible rfl
   rotate_left
   ·simp only [Act.put, sA, sB, sC, i64_w, i32_w]
    rfl
   refine take_ (i := 5) (N := some 43) (v := ?_) (a' := ?_) #[tt,tt,tt,tt,tt,tt,tt,ff,ff,ff,ff,ff,ff,ff,ff,ff] rfl rfl (take_ofW HT_.out HW_.out (by kernel_rfl)) (fun _ _ _ h => nomatch h.1) (Or.inl ⟨by rfl, ?_⟩) hHeld ?_ ?_
   rotate_left
   ·rintro w' ⟨s0, s1, s2⟩
    go_simp
    with_reducible rfl
   rotate_left
   ·simp only [Act.put, sA, sB, sC, i64_w, i32_w]
    rfl
   refine take_ (i := 7) (N := some 45) (v := ?_) (a' := ?_) #[tt,tt,tt,tt,tt,tt,tt,tt,ff,ff,ff,ff,ff,ff,ff,ff] rfl rfl (take_ofW HT_.out HW_.out (by kernel_rfl)) (fun _ _ _ h => nomatch h.1) (Or.inl ⟨by rfl, ?_⟩) hHeld ?_ ?_
   rotate_left
   ·rintro w' ⟨s0, s1, s2⟩
    go_simp
    with_reducible rfl
   rotate_left
   ·simp only [Act.put, sA, sB, sC, i64_w, i32_w]
    rfl
   refine one_ (i := 8) (N := some 46) #[tt,tt,tt,tt,tt,tt,tt,tt,tt,ff,ff,ff,ff,ff,ff,ff] rfl rfl (one_of HT_.out (by kernel_rfl)) (by decide) (fun K hK => ?_)
   refine goes_ Tryz.func60 (by kernel_rfl) rfl #[.pointer (some ⟨rk, 0, none⟩), .pointer l.adr, .string k, v.val] (by rfl) rfl rfl (by simp only [List.map_toArray, List.map_cons, List.map_nil]; rfl) ?_
   with_reducible refine (ihl _ d_RK.out d_L.out WL.out (by have := ZZ.out; omega) MM.out.2.2.2.1 RR.out.2.1).mono ?_
   rintro e w1 ⟨nb, hnb, rfl, hM, hA⟩
   refine ⟨_, rfl, ?_⟩
   have n_NB := Aside0.mk hnb
   have n_K := Aside0.mk (hM.blk d_K.out MM.out.1)
   have n_A := Aside0.mk hA
   have n_Y := Aside0.mk (d_R.out.mut hM (fun i hi e => MM.out.2.2.1 i hi e))
   have n_BX := Aside0.mk (hM.blk d_BX.out (fun e => by have := LT.out bx (by simp [Tr.ids, e]); have := HX.out; omega))
   have n_D := Aside0.mk (d_D.out.trans hM (fun _ e => e) (fun i e _ => by simp [Tr.ids, e]))
   have n_SZ := Aside0.mk (Nat.le_trans d_D.out.size hnb)
   clear hnb hM hA d_K d_RK d_L d_R d_BX d_D
   refine hK.out _ _ ⟨((blk_cell n_K.out 3).trans rfl), ((blk_cell n_BX.out 0).trans rfl), ((blk_cell n_BX.out 1).trans rfl)⟩ (fun hHeld => ?_)
   clear hK K
   refine norm_ (a' := ?_) ?_ ?_
   rotate_left
   ·show Act.put _ (some 46) _ = _
    simp only [Act.put, sA, sB, sC, i64_w, i32_w]
    rfl
   refine pure_ (i := 9) (N := some 37) (v := ?_) (a' := ?_) #[tt,tt,tt,tt,tt,tt,tt,tt,tt,tt,ff,ff,ff,ff,ff,ff] rfl rfl (any_of HT_.out (by kernel_rfl)) (fun _ _ _ h => nomatch h.1) (Or.inl ⟨by rfl, ?_⟩) ?_ ?_
   rotate_left
   ·intro w'
    go_simp
    with_reducible rfl
   rotate_left
   ·simp only [Act.put, sA, sB, sC, i64_w, i32_w]
    rfl
   refine pure_ (i := 10) (N := some 47) (v := ?_) (a' := ?_) #[tt,tt,tt,tt,tt,tt,tt,tt,tt,tt,tt,ff,ff,ff,ff,ff] rfl rfl (any_of HT_.out (by kernel_rfl)) (fun _ _ _ h => nomatch h.1) (Or.inl ⟨by rfl, ?_⟩) ?_ ?_
   rotate_left
   ·intro w'
    go_simp
    with_reducible rfl
   rotate_left
   ·simp only [Act.put, sA, sB, sC, i64_w, i32_w]
    rfl
   refine pure_ (i := 11) (N := some 48) (v := ?_) (a' := ?_) #[tt,tt,tt,tt,tt,tt,tt,tt,tt,tt,tt,tt,ff,ff,ff,ff] rfl rfl (any_of HT_.out (by kernel_rfl)) (fun _ _ _ h => nomatch h.1) (Or.inl ⟨by rfl, ?_⟩) ?_ ?_
   rotate_left
   ·intro w'
    go_simp
    with_reducible rfl
   rotate_left
   ·simp only [Act.put, sA, sB, sC, i64_w, i32_w]
    rfl
   refine pure_ (i := 12) (N := some 49) (v := ?_) (a' := ?_) #[tt,tt,tt,tt,tt,tt,tt,tt,tt,tt,tt,tt,tt,ff,ff,ff] rfl rfl (any_of HT_.out (by kernel_rfl)) (fun _ _ _ h => nomatch h.1) (Or.inl ⟨by rfl, ?_⟩) ?_ ?_
   rotate_left
   ·intro w'
    go_simp
    with_reducible rfl
   rotate_left
   ·simp only [Act.put, sA, sB, sC, i64_w, i32_w]
    rfl
   refine pure_ (i := 13) (N := some 50) (v := ?_) (a' := ?_) #[tt,tt,tt,tt,tt,tt,tt,tt,tt,tt,tt,tt,tt,tt,ff,ff] rfl rfl (any_of HT_.out (by kernel_rfl)) (fun _ _ _ h => nomatch h.1) (Or.inl ⟨by rfl, ?_⟩) ?_ ?_
   rotate_left
   ·intro w'
    go_simp
    with_reducible rfl
   rotate_left
   ·simp only [Act.put, sA, sB, sC, i64_w, i32_w]
    rfl
   refine last_ (i := 14) (N := none) #[tt,tt,tt,tt,tt,tt,tt,tt,tt,tt,tt,tt,tt,tt,tt,ff] rfl rfl (one_of HT_.out (by kernel_rfl)) (by decide) (fun K hK => ?_)
   have d3 := (blk_cell n_K.out 3).trans rfl
   have f3 := blk_frozen n_K.out 3
   refine skip_ (w1 := ?_) (by rfl) rfl ?_ ?_
   rotate_left
   ·go_simp
    rfl
   refine hK.out _ _ ?_
   clear hK K
   refine pure_ (i := 15) (N := some 10) (v := ?_) (a' := ?_) #[tt,tt,tt,tt,tt,tt,tt,tt,tt,tt,tt,tt,tt,tt,tt,tt] rfl rfl (any_of HT_.out (by kernel_rfl)) (fun _ _ _ h => nomatch h.1) (Or.inl ⟨by rfl, ?_⟩) ?_ ?_
   rotate_left
   ·intro w'
    go_simp
    with_reducible rfl
   rotate_left
   ·simp only [Act.put, sA, sB, sC, i64_w, i32_w]
    rfl
   refine done_ (done_of HT_.out (by kernel_rfl)) ?_
   refine ⟨rfl, ?_⟩
   clear hHeld HT_ HW_
   have hbN : b ∉ Tr.ids (Tr.put cmpS nb k v l) := fun hh => by rcases (Tr.put_ids l b).1 hh with e | ⟨_, e⟩; exact MM.out.1 e; have := LT.out b (by simp [Tr.ids]); have := n_SZ.out; omega
   have hS : Mut (fun i => i = b) w1 (w1.setCell ⟨b, 3, none⟩ (.pointer (Tr.put cmpS nb k v l).adr)) := (Mut.refl (fun i => i = b) w1).set (.inl rfl) 3 _
   have m_K : (w1.setCell ⟨b, 3, none⟩ (.pointer (Tr.put cmpS nb k v l).adr)).heap[b]? = some (.cells (nodeC k' v' (Tr.put cmpS nb k v l).adr r.adr h m) 121 (0, 0)) := blk_put n_K.out 3 _ rfl
   have m_A := n_A.out.mut hS (fun i hi e => hbN (e ▸ hi))
   have m_Y := n_Y.out.mut hS (fun i hi e => MM.out.2.1 (e ▸ hi))
   have hev : Tr.put cmpS nb k v (.node b k' v' l r h m) = (Tr.even b k' v' (Tr.put cmpS nb k v l) r) := by rw [Tr.put, if_pos h1]
   have hhad : Tr.had cmpS k (.node b k' v' l r h m) = Tr.had cmpS k l := by rw [Tr.had, if_pos h1]
   have hnd : (Tr.ids (Tr.put cmpS nb k v (.node b k' v' l r h m))).Nodup := Tr.put_nodup _ ND.out (fun hh => by have := LT.out nb hh; have := n_SZ.out; omega)
   rw [hev, Tr.even_ids] at hnd
   have hc := even_calls (w1.setCell ⟨b, 3, none⟩ (.pointer (Tr.put cmpS nb k v l).adr)) b k' v' (Tr.put cmpS nb k v l) r h m m_K m_A m_Y (Tr.put_wf WL.out) WR.out (by have := Tr.put_len (cmp := cmpS) (nb := nb) (k := k) (v := v) l; have := ZZ.out; omega) hnd
   have n_E := Aside0.mk hev
   have n_H := Aside0.mk hhad
   have n_S := Aside0.mk (n_D.out.trans hS (fun _ e => e) (fun i e _ => by simp [Tr.ids, e]))
   have n_F := Aside0.mk (show ∀ i, (i = b ∨ i ∈ Tr.ids (Tr.put cmpS nb k v l) ∨ i ∈ Tr.ids r) → i < w.heap.size → i ∈ Tr.ids (.node b k' v' l r h m) from by
    intro i e hi
    have hsz := n_SZ.out
    rcases e with e | e | e
    ·simp [Tr.ids, e]
    ·rcases (Tr.put_ids l i).1 e with e | ⟨_, e⟩
     ·simp [Tr.ids, e]
     ·omega
    ·simp [Tr.ids, e])
   clear hS m_K m_A m_Y hev hhad hnd hbN n_K n_A n_Y n_BX n_D
   generalize w1.setCell ⟨b, 3, none⟩ (.pointer (Tr.put cmpS nb k v l).adr) = W4 at n_S hc ⊢
   go_wp2_with (go_at_call 78; refine (show Calls _ _ _ _ _ from hc).mono ?_; rintro e w5 ⟨rfl, hM, hA⟩; have m_M := Aside0.mk hM; have m_A := Aside0.mk hA; clear hM hA hc)
   exact bodyPost_ret (v := .tuple #[.pointer (Tr.even b k' v' (Tr.put cmpS nb k v l) r).adr, .bool (Tr.had cmpS k l)]) (by simp [results, Tryz.results60, go_sem]) rfl ⟨nb, n_SZ.out, by rw [n_E.out, n_H.out]; rfl, n_S.out.trans m_M.out (fun _ e => e) n_F.out, by rw [n_E.out]; exact m_A.out⟩
  ·have hb0 : decide (cmpS k k' < 0) = false := decide_eq_false h1
   by_cases h3 : cmpS k k' > 0
   ·have hb1 : decide (cmpS k k' > 0) = true := decide_eq_true h3
    go_upto_region 10 with fail
    have d_K := Aside0.mk (blk_drew n_K.out)
    have d_RK := Aside0.mk (blk_drew n_RK.out)
    have d_L := Aside0.mk (At.keep (w' := W1.drew) n_L.out (fun _ _ _ => rfl))
    have d_R := Aside0.mk (At.keep (w' := W1.drew) n_R.out (fun _ _ _ => rfl))
    have d_BX := Aside0.mk (blk_drew n_BX.out)
    have d_D := Aside0.mk n_D.out.drew
    clear n_K n_RK n_L n_R n_BX n_D
    refine wp_mono (Q := fun e a w => e = .normal ∧ _) ?_ (fun e a w h => h.2)
    refine start_ (n := 16) (S := fun w' => w'.cell? ⟨b, 4, none⟩ = some (.pointer r.adr) ∧ w'.cell? ⟨bx, 0, none⟩ = some (.slice v.A v.n v.c) ∧ w'.cell? ⟨bx, 1, none⟩ = some (.int .i64 v.s)) (ds := [14]) #[ff,ff,ff,ff,ff,ff,ff,ff,ff,ff,ff,ff,ff,ff,ff,ff] (by kernel_rfl) rfl rfl ⟨((blk_cell d_K.out 4).trans rfl), ((blk_cell d_BX.out 0).trans rfl), ((blk_cell d_BX.out 1).trans rfl)⟩ (fun hHeld => ?_)
    refine with_tabW q60.tab10 q60.bits10 (fun HT_ HW_ => ?_)
    refine pure_ (i := 0) (N := some 55) (v := ?_) (a' := ?_) #[tt,ff,ff,ff,ff,ff,ff,ff,ff,ff,ff,ff,ff,ff,ff,ff] rfl rfl (any_of HT_.out (by kernel_rfl)) (fun _ _ _ h => nomatch h.1) (Or.inl ⟨by rfl, ?_⟩) ?_ ?_
    rotate_left
    ·intro w'
     go_simp
     with_reducible rfl
    rotate_left
    ·simp only [Act.put, sA, sB, sC, i64_w, i32_w]
     rfl
    refine pure_ (i := 1) (N := some 56) (v := ?_) (a' := ?_) #[tt,tt,ff,ff,ff,ff,ff,ff,ff,ff,ff,ff,ff,ff,ff,ff] rfl rfl (any_of HT_.out (by kernel_rfl)) (fun _ _ _ h => nomatch h.1) (Or.inl ⟨by rfl, ?_⟩) ?_ ?_
    rotate_left
    ·intro w'
     go_simp
     with_reducible rfl
    rotate_left
    ·simp only [Act.put, sA, sB, sC, i64_w, i32_w]
     rfl
    refine pure_ (i := 2) (N := some 57) (v := ?_) (a' := ?_) #[tt,tt,tt,ff,ff,ff,ff,ff,ff,ff,ff,ff,ff,ff,ff,ff] rfl rfl (any_of HT_.out (by kernel_rfl)) (fun _ _ _ h => nomatch h.1) (Or.inl ⟨by rfl, ?_⟩) ?_ ?_
    rotate_left
    ·intro w'
     go_simp
     with_reducible rfl
    rotate_left
    ·simp only [Act.put, sA, sB, sC, i64_w, i32_w]
     rfl
    refine pure_ (i := 3) (N := some 58) (v := ?_) (a' := ?_) #[tt,tt,tt,tt,ff,ff,ff,ff,ff,ff,ff,ff,ff,ff,ff,ff] rfl rfl (any_of HT_.out (by kernel_rfl)) (fun _ _ _ h => nomatch h.1) (Or.inl ⟨by rfl, ?_⟩) ?_ ?_
    rotate_left
    ·intro w'
     go_simp
     with_reducible rfl
    rotate_left
    ·simp only [Act.put, sA, sB, sC, i64_w, i32_w]
     rfl
    refine pure_ (i := 4) (N := some 59) (v := ?_) (a' := ?_) #[tt,tt,tt,tt,tt,ff,ff,ff,ff,ff,ff,ff,ff,ff,ff,ff] rfl rfl (any_of HT_.out (by kernel_rfl)) (fun _ _ _ h => nomatch h.1) (Or.inl ⟨by rfl, ?_⟩) ?_ ?_
    rotate_left
    ·intro w'
     go_simp
     with_reducible rfl
    rotate_left
    ·simp only [Act.put, sA, sB, sC, i64_w, i32_w]
     rfl
    refine pure_ (i := 6) (N := some 61) (v := ?_) (a' := ?_) #[tt,tt,tt,tt,tt,ff,tt,ff,ff,ff,ff,ff,ff,ff,ff,ff] rfl rfl (any_of HT_.out (by kernel_rfl)) (fun _ _ _ h => nomatch h.1) (Or.inl ⟨by rfl, ?_⟩) ?_ ?_
    rotate_left
    ·intro w'
     go_simp
     with_reducible rfl
    rotate_left
    ·simp only [Act.put, sA, sB, sC, i64_w, i32_w]
     rfl
    refine take_ (i := 5) (N := some 60) (v := ?_) (a' := ?_) #[tt,tt,tt,tt,tt,tt,tt,ff,ff,ff,ff,ff,ff,ff,ff,ff] rfl rfl (take_ofW HT_.out HW_.out (by kernel_rfl)) (fun _ _ _ h => nomatch h.1) (Or.inl ⟨by rfl, ?_⟩) hHeld ?_ ?_
    rotate_left
    ·rintro w' ⟨s0, s1, s2⟩
     go_simp
     with_reducible rfl
    rotate_left
    ·simp only [Act.put, sA, sB, sC, i64_w, i32_w]
     rfl
    refine take_ (i := 7) (N := some 62) (v := ?_) (a' := ?_) #[tt,tt,tt,tt,tt,tt,tt,tt,ff,ff,ff,ff,ff,ff,ff,ff] rfl rfl (take_ofW HT_.out HW_.out (by kernel_rfl)) (fun _ _ _ h => nomatch h.1) (Or.inl ⟨by rfl, ?_⟩) hHeld ?_ ?_
    rotate_left
    ·rintro w' ⟨s0, s1, s2⟩
     go_simp
     with_reducible rfl
    rotate_left
    ·simp only [Act.put, sA, sB, sC, i64_w, i32_w]
     rfl
    refine one_ (i := 8) (N := some 63) #[tt,tt,tt,tt,tt,tt,tt,tt,tt,ff,ff,ff,ff,ff,ff,ff] rfl rfl (one_of HT_.out (by kernel_rfl)) (by decide) (fun K hK => ?_)
    refine goes_ Tryz.func60 (by kernel_rfl) rfl #[.pointer (some ⟨rk, 0, none⟩), .pointer r.adr, .string k, v.val] (by rfl) rfl rfl (by simp only [List.map_toArray, List.map_cons, List.map_nil]; rfl) ?_
    with_reducible refine (ihr _ d_RK.out d_R.out WR.out (by have := ZZ.out; omega) MM.out.2.2.2.2 RR.out.2.2).mono ?_
    rintro e w1 ⟨nb, hnb, rfl, hM, hA⟩
    refine ⟨_, rfl, ?_⟩
    have n_NB := Aside0.mk hnb
    have n_K := Aside0.mk (hM.blk d_K.out MM.out.2.1)
    have n_A := Aside0.mk hA
    have n_Y := Aside0.mk (d_L.out.mut hM (fun i hi e => MM.out.2.2.1 i e hi))
    have n_BX := Aside0.mk (hM.blk d_BX.out (fun e => by have := LT.out bx (by simp [Tr.ids, e]); have := HX.out; omega))
    have n_D := Aside0.mk (d_D.out.trans hM (fun _ e => e) (fun i e _ => by simp [Tr.ids, e]))
    have n_SZ := Aside0.mk (Nat.le_trans d_D.out.size hnb)
    clear hnb hM hA d_K d_RK d_L d_R d_BX d_D
    refine hK.out _ _ ⟨((blk_cell n_K.out 4).trans rfl), ((blk_cell n_BX.out 0).trans rfl), ((blk_cell n_BX.out 1).trans rfl)⟩ (fun hHeld => ?_)
    clear hK K
    refine norm_ (a' := ?_) ?_ ?_
    rotate_left
    ·show Act.put _ (some 63) _ = _
     simp only [Act.put, sA, sB, sC, i64_w, i32_w]
     rfl
    refine pure_ (i := 9) (N := some 54) (v := ?_) (a' := ?_) #[tt,tt,tt,tt,tt,tt,tt,tt,tt,tt,ff,ff,ff,ff,ff,ff] rfl rfl (any_of HT_.out (by kernel_rfl)) (fun _ _ _ h => nomatch h.1) (Or.inl ⟨by rfl, ?_⟩) ?_ ?_
    rotate_left
    ·intro w'
     go_simp
     with_reducible rfl
    rotate_left
    ·simp only [Act.put, sA, sB, sC, i64_w, i32_w]
     rfl
    refine pure_ (i := 10) (N := some 64) (v := ?_) (a' := ?_) #[tt,tt,tt,tt,tt,tt,tt,tt,tt,tt,tt,ff,ff,ff,ff,ff] rfl rfl (any_of HT_.out (by kernel_rfl)) (fun _ _ _ h => nomatch h.1) (Or.inl ⟨by rfl, ?_⟩) ?_ ?_
    rotate_left
    ·intro w'
     go_simp
     with_reducible rfl
    rotate_left
    ·simp only [Act.put, sA, sB, sC, i64_w, i32_w]
     rfl
    refine pure_ (i := 11) (N := some 65) (v := ?_) (a' := ?_) #[tt,tt,tt,tt,tt,tt,tt,tt,tt,tt,tt,tt,ff,ff,ff,ff] rfl rfl (any_of HT_.out (by kernel_rfl)) (fun _ _ _ h => nomatch h.1) (Or.inl ⟨by rfl, ?_⟩) ?_ ?_
    rotate_left
    ·intro w'
     go_simp
     with_reducible rfl
    rotate_left
    ·simp only [Act.put, sA, sB, sC, i64_w, i32_w]
     rfl
    refine pure_ (i := 12) (N := some 66) (v := ?_) (a' := ?_) #[tt,tt,tt,tt,tt,tt,tt,tt,tt,tt,tt,tt,tt,ff,ff,ff] rfl rfl (any_of HT_.out (by kernel_rfl)) (fun _ _ _ h => nomatch h.1) (Or.inl ⟨by rfl, ?_⟩) ?_ ?_
    rotate_left
    ·intro w'
     go_simp
     with_reducible rfl
    rotate_left
    ·simp only [Act.put, sA, sB, sC, i64_w, i32_w]
     rfl
    refine pure_ (i := 13) (N := some 67) (v := ?_) (a' := ?_) #[tt,tt,tt,tt,tt,tt,tt,tt,tt,tt,tt,tt,tt,tt,ff,ff] rfl rfl (any_of HT_.out (by kernel_rfl)) (fun _ _ _ h => nomatch h.1) (Or.inl ⟨by rfl, ?_⟩) ?_ ?_
    rotate_left
    ·intro w'
     go_simp
     with_reducible rfl
    rotate_left
    ·simp only [Act.put, sA, sB, sC, i64_w, i32_w]
     rfl
    refine last_ (i := 14) (N := none) #[tt,tt,tt,tt,tt,tt,tt,tt,tt,tt,tt,tt,tt,tt,tt,ff] rfl rfl (one_of HT_.out (by kernel_rfl)) (by decide) (fun K hK => ?_)
    have d3 := (blk_cell n_K.out 4).trans rfl
    have f3 := blk_frozen n_K.out 4
    refine skip_ (w1 := ?_) (by rfl) rfl ?_ ?_
    rotate_left
    ·go_simp
     rfl
    refine hK.out _ _ ?_
    clear hK K
    refine pure_ (i := 15) (N := some 10) (v := ?_) (a' := ?_) #[tt,tt,tt,tt,tt,tt,tt,tt,tt,tt,tt,tt,tt,tt,tt,tt] rfl rfl (any_of HT_.out (by kernel_rfl)) (fun _ _ _ h => nomatch h.1) (Or.inl ⟨by rfl, ?_⟩) ?_ ?_
    rotate_left
    ·intro w'
     go_simp
     with_reducible rfl
    rotate_left
    ·simp only [Act.put, sA, sB, sC, i64_w, i32_w]
     rfl
    refine done_ (done_of HT_.out (by kernel_rfl)) ?_
    refine ⟨rfl, ?_⟩
    clear hHeld HT_ HW_
    have hbN : b ∉ Tr.ids (Tr.put cmpS nb k v r) := fun hh => by rcases (Tr.put_ids r b).1 hh with e | ⟨_, e⟩; exact MM.out.2.1 e; have := LT.out b (by simp [Tr.ids]); have := n_SZ.out; omega
    have hS : Mut (fun i => i = b) w1 (w1.setCell ⟨b, 4, none⟩ (.pointer (Tr.put cmpS nb k v r).adr)) := (Mut.refl (fun i => i = b) w1).set (.inl rfl) 4 _
    have m_K : (w1.setCell ⟨b, 4, none⟩ (.pointer (Tr.put cmpS nb k v r).adr)).heap[b]? = some (.cells (nodeC k' v' l.adr (Tr.put cmpS nb k v r).adr h m) 121 (0, 0)) := blk_put n_K.out 4 _ rfl
    have m_A := n_A.out.mut hS (fun i hi e => hbN (e ▸ hi))
    have m_Y := n_Y.out.mut hS (fun i hi e => MM.out.1 (e ▸ hi))
    have hev : Tr.put cmpS nb k v (.node b k' v' l r h m) = (Tr.even b k' v' l (Tr.put cmpS nb k v r)) := by rw [Tr.put, if_neg h1, if_pos h3]
    have hhad : Tr.had cmpS k (.node b k' v' l r h m) = Tr.had cmpS k r := by rw [Tr.had, if_neg h1, if_pos h3]
    have hnd : (Tr.ids (Tr.put cmpS nb k v (.node b k' v' l r h m))).Nodup := Tr.put_nodup _ ND.out (fun hh => by have := LT.out nb hh; have := n_SZ.out; omega)
    rw [hev, Tr.even_ids] at hnd
    have hc := even_calls (w1.setCell ⟨b, 4, none⟩ (.pointer (Tr.put cmpS nb k v r).adr)) b k' v' l (Tr.put cmpS nb k v r) h m m_K m_Y m_A WL.out (Tr.put_wf WR.out) (by have := Tr.put_len (cmp := cmpS) (nb := nb) (k := k) (v := v) r; have := ZZ.out; omega) hnd
    have n_E := Aside0.mk hev
    have n_H := Aside0.mk hhad
    have n_S := Aside0.mk (n_D.out.trans hS (fun _ e => e) (fun i e _ => by simp [Tr.ids, e]))
    have n_F := Aside0.mk (show ∀ i, (i = b ∨ i ∈ Tr.ids l ∨ i ∈ Tr.ids (Tr.put cmpS nb k v r)) → i < w.heap.size → i ∈ Tr.ids (.node b k' v' l r h m) from by
     intro i e hi
     have hsz := n_SZ.out
     rcases e with e | e | e
     ·simp [Tr.ids, e]
     ·simp [Tr.ids, e]
     ·rcases (Tr.put_ids r i).1 e with e | ⟨_, e⟩
      ·simp [Tr.ids, e]
      ·omega)
    clear hS m_K m_A m_Y hev hhad hnd hbN n_K n_A n_Y n_BX n_D
    generalize w1.setCell ⟨b, 4, none⟩ (.pointer (Tr.put cmpS nb k v r).adr) = W4 at n_S hc ⊢
    go_wp2_with (go_at_call 78; refine (show Calls _ _ _ _ _ from hc).mono ?_; rintro e w5 ⟨rfl, hM, hA⟩; have m_M := Aside0.mk hM; have m_A := Aside0.mk hA; clear hM hA hc)
    exact bodyPost_ret (v := .tuple #[.pointer (Tr.even b k' v' l (Tr.put cmpS nb k v r)).adr, .bool (Tr.had cmpS k r)]) (by simp [results, Tryz.results60, go_sem]) rfl ⟨nb, n_SZ.out, by rw [n_E.out, n_H.out]; rfl, n_S.out.trans m_M.out (fun _ e => e) n_F.out, by rw [n_E.out]; exact m_A.out⟩
   ·have hb1 : decide (cmpS k k' > 0) = false := decide_eq_false h3
    have d0 : W1.cell? ⟨bx, 0, none⟩ = some (.slice v.A v.n v.c) := (blk_cell n_BX.out 0).trans rfl
    have d1 : W1.cell? ⟨bx, 1, none⟩ = some (.int .i64 v.s) := (blk_cell n_BX.out 1).trans rfl
    have d2 : W1.cell? ⟨b, 1, none⟩ = some (.slice v'.A v'.n v'.c) := (blk_cell n_K.out 1).trans rfl
    have d3 : W1.cell? ⟨b, 2, none⟩ = some (.int .i64 v'.s) := (blk_cell n_K.out 2).trans rfl
    have f2 := blk_frozen n_K.out 1
    have f3 := blk_frozen n_K.out 2
    go_upto_region 11 with fail
    have hS : Mut (fun i => i = b) W1 ((W1.setCell ⟨b, 1, none⟩ (.slice v.A v.n v.c)).setCell ⟨b, 2, none⟩ (.int .i64 v.s)) := ((Mut.refl (fun i => i = b) W1).set (.inl rfl) 1 _).set (.inl rfl) 2 _
    have m_K : ((W1.setCell ⟨b, 1, none⟩ (.slice v.A v.n v.c)).setCell ⟨b, 2, none⟩ (.int .i64 v.s)).heap[b]? = some (.cells (nodeC k' v l.adr r.adr h m) 121 (0, 0)) := blk_put (blk_put n_K.out 1 _ rfl) 2 _ rfl
    have m_L := n_L.out.mut hS (fun i hi e => MM.out.1 (e ▸ hi))
    have m_R := n_R.out.mut hS (fun i hi e => MM.out.2.1 (e ▸ hi))
    have hev : Tr.put cmpS w.heap.size k v (.node b k' v' l r h m) = Tr.even b k' v l r := by rw [Tr.put, if_neg h1, if_neg h3]
    have hhad : Tr.had cmpS k (.node b k' v' l r h m) = true := by rw [Tr.had, if_neg h1, if_neg h3]
    have hc := even_calls ((W1.setCell ⟨b, 1, none⟩ (.slice v.A v.n v.c)).setCell ⟨b, 2, none⟩ (.int .i64 v.s)) b k' v l r h m m_K m_L m_R WL.out WR.out (by have := ZZ.out; omega) ND.out
    have n_E := Aside0.mk hev
    have n_H := Aside0.mk hhad
    have n_S := Aside0.mk (n_D.out.trans hS (fun _ e => e) (fun i e _ => by simp [Tr.ids, e]))
    have n_F := Aside0.mk (show ∀ i, (i = b ∨ i ∈ Tr.ids l ∨ i ∈ Tr.ids r) → i < w.heap.size → i ∈ Tr.ids (.node b k' v' l r h m) from by
     intro i e hi
     rcases e with e | e | e <;> simp [Tr.ids, e])
    clear hS m_K m_L m_R hev hhad d0 d1 d2 d3 f2 f3 n_K n_RK n_L n_R n_BX n_D
    generalize (W1.setCell ⟨b, 1, none⟩ (.slice v.A v.n v.c)).setCell ⟨b, 2, none⟩ (.int .i64 v.s) = W4 at n_S hc ⊢
    go_wp2_with (go_at_call 78; refine (show Calls _ _ _ _ _ from hc).mono ?_; rintro e w5 ⟨rfl, hM, hA⟩; have m_M := Aside0.mk hM; have m_A := Aside0.mk hA; clear hM hA hc)
    exact bodyPost_ret (v := .tuple #[.pointer (Tr.even b k' v l r).adr, .bool true]) (by simp [results, Tryz.results60, go_sem]) rfl ⟨w.heap.size, Nat.le_refl _, by rw [n_E.out, n_H.out]; rfl, n_S.out.trans m_M.out (fun _ e => e) n_F.out, by rw [n_E.out]; exact m_A.out⟩
end Go.Proofs.YtdooajmgfoobfaaGreatDoor.H

