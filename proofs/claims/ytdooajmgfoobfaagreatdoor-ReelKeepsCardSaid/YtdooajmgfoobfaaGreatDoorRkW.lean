/- A rack's iterator. -/
import Derived.Test.YtdooajmgfoobfaaGreatDoorZz
import Derived.Test.YtdooajmgfoobfaaGreatDoorRkU
import Derived.Shelf.RegionOpen
import Derived.WalkKit
import Derived.OwnWalkIn
import Derived.TacticsInMore
namespace Go.Proofs.YtdooajmgfoobfaaGreatDoor.H
open Go.RowKit Go.Proofs.YtdooajmgfoobfaaGreatDoor.PA Go.Proofs.YtdooajmgfoobfaaGreatDoorW.PrintWords Go.Proofs.YtdooajmgfoobfaaGreatDoorW.PrintLast Go.Proofs.YtdooajmgfoobfaaGreatDoorW.PrintMore
set_option linter.unusedVariables false
set_option linter.unusedSimpArgs false
/-- An entry as it is handed over. -/
def entA (x : ByteArray × FV) : Array Value := #[.string x.1, x.2.val]
set_option maxRecDepth 100000 in
set_option maxHeartbeats 8000000 in
theorem ahead_calls (k : ByteArray) (w : World) : Calls Tryz.prog 59 #[.string k] w fun e w' => e = .returned (.bool false) ∧ w' = w := by
 go_enter Tryz.func59, Tryz.ntmps59
 go_wp2
 go_ret
 exact ⟨rfl, rfl⟩
set_option maxRecDepth 100000 in
set_option maxHeartbeats 8000000 in
theorem up_in (m lp : Nat) (T : Tr FV) (J Jx : List (ByteArray × FV) → World → Prop) (hd : ∀ s A, J s A → J s A.drew)
  (hY : ∀ pre x W1, J pre W1 → pre ++ [x] <+: T.toL → YieldAt Fence.wide m Tryz.prog lp (entA x) W1 fun e W' => (e = .returned (.bool true) ∧ J (pre ++ [x]) W') ∨ (e = .returned (.bool false) ∧ Jx (pre ++ [x]) W'))
  (hAt : ∀ pre W, J pre W → At W T) : ∀ (t : Tr FV), (∀ W, At W T → At W t) → ∀ (n : Nat) (pre : List (ByteArray × FV)) (W : World), pre ++ t.toL <+: T.toL → J pre W →
  CallsIn Fence.wide n Tryz.prog 58 #[.pointer t.adr, .func (.func 59) #[] #[], .func (.yield lp) #[] #[]] W fun e W' => (e = .returned (.bool true) ∧ J (pre ++ t.toL) W') ∨ (e = .returned (.bool false) ∧ ∃ q, q <+: T.toL ∧ Jx q W') := by
 intro t
 induction t with
 | nil =>
  intro hs n pre W hp hJ
  rw [adr_nil]
  refine callsIn_of_wp Tryz.func58 rfl trivial ?_ rfl
  simp only [Tryz.ntmps58, List.size_toArray, List.length_cons, List.length_nil, Nat.reduceAdd, Nat.reduceSub, Array.replicate_succ, Array.replicate_zero, List.push_toArray, List.append_toArray, List.nil_append, List.cons_append]
  have HJ := Aside0.mk (show J (pre ++ (Tr.nil : Tr FV).toL) W by simpa [Tr.toL] using hJ)
  have HS := Aside0.mk (And.intro hd (And.intro hY (And.intro hAt hs)))
  clear hd hY hAt hs hJ hp
  gi_wp2
  exact bodyPost_ret (v := .bool true) (by simp [results, Tryz.results58, go_sem]) rfl (.inl ⟨rfl, HJ.out⟩)
 | node b k v l r h mm ihl ihr =>
  intro hs n pre W hp hJ
  have hpl : pre ++ l.toL <+: T.toL := (List.prefix_append _ ((k, v) :: r.toL)).trans (by simpa [Tr.toL] using hp)
  have hpx : (pre ++ l.toL) ++ [(k, v)] <+: T.toL := (List.prefix_append _ r.toL).trans (by simpa [Tr.toL] using hp)
  have hpr : (pre ++ l.toL ++ [(k, v)]) ++ r.toL <+: T.toL := by simpa [Tr.toL] using hp
  have heq : (pre ++ l.toL ++ [(k, v)]) ++ r.toL = pre ++ (Tr.node b k v l r h mm).toL := by simp [Tr.toL]
  have cl := fun w1 hj => ihl (fun W hW => (hs W hW).left) n pre w1 hpl hj
  have cr := fun w1 hj => ihr (fun W hW => (hs W hW).right) n (pre ++ l.toL ++ [(k, v)]) w1 hpr hj
  have CL := Aside0.mk cl
  have CR := Aside0.mk cr
  have NODE := Aside0.mk (fun q w1 hj => hs w1 (hAt q w1 hj))
  have HY := Aside0.mk hY
  have HD := Aside0.mk hd
  have PX := Aside0.mk (And.intro hpx heq)
  have HJ := Aside0.mk hJ
  have d0 : W.cell? ⟨b, 0, none⟩ = some (.string k) := (blk_cell (NODE.out _ _ hJ).node 0).trans rfl
  clear ihl ihr hs hd hY hAt hp hpl hpx hpr heq cl cr hJ
  rw [adr_node]
  refine callsIn_of_wp Tryz.func58 rfl trivial ?_ rfl
  simp only [Tryz.ntmps58, List.size_toArray, List.length_cons, List.length_nil, Nat.reduceAdd, Nat.reduceSub, Array.replicate_succ, Array.replicate_zero, List.push_toArray, List.append_toArray, List.nil_append, List.cons_append]
  gi_wp2_with fail
  refine ⟨trivial, fun h => by simp [Fence.wide] at h, ?_⟩
  refine (callsIn_wide.2 (ahead_calls _ _)).mono ?_
  rintro e w1 ⟨rfl, rfl⟩
  gi_wp2_with fail
  have HJ1 := Aside0.mk (HD.out _ _ HJ.out)
  have d3 : w1.drew.cell? ⟨b, 3, none⟩ = some (.pointer l.adr) := (blk_cell (NODE.out _ _ HJ1.out).node 3).trans rfl
  clear d0 HJ
  refine startIn_ #[ff,ff,ff,ff,ff,ff,ff,ff,ff,ff,ff,ff,ff,ff,ff,ff,ff,ff,ff,ff,ff,ff,ff,ff,ff,ff,ff,ff,ff] (by kernel_rfl) rfl rfl ?_
  refine pureIn_ (i := 0) (N := some 22) (v := ?_) (a' := ?_) #[tt,ff,ff,ff,ff,ff,ff,ff,ff,ff,ff,ff,ff,ff,ff,ff,ff,ff,ff,ff,ff,ff,ff,ff,ff,ff,ff,ff,ff] rfl rfl (by kernel_rfl) (fun _ _ _ h => h) ⟨Or.inl ⟨by rfl, ?_⟩, fun _ => rfl⟩ ?_ ?_
  rotate_left
  ·intro w'
   go_simp
   with_reducible rfl
  rotate_left
  ·show Act.put _ (some 22) _ = _
   simp only [Act.put, sA, sB, sC, i64_w, i32_w]
   rfl
  refine pureIn_ (i := 1) (N := some 23) (v := ?_) (a' := ?_) #[tt,tt,ff,ff,ff,ff,ff,ff,ff,ff,ff,ff,ff,ff,ff,ff,ff,ff,ff,ff,ff,ff,ff,ff,ff,ff,ff,ff,ff] rfl rfl (by kernel_rfl) (fun _ _ _ h => h) ⟨Or.inl ⟨by rfl, ?_⟩, fun _ => rfl⟩ ?_ ?_
  rotate_left
  ·intro w'
   go_simp
   with_reducible rfl
  rotate_left
  ·show Act.put _ (some 23) _ = _
   simp only [Act.put, sA, sB, sC, i64_w, i32_w]
   rfl
  refine pureIn_ (i := 2) (N := some 24) (v := ?_) (a' := ?_) #[tt,tt,tt,ff,ff,ff,ff,ff,ff,ff,ff,ff,ff,ff,ff,ff,ff,ff,ff,ff,ff,ff,ff,ff,ff,ff,ff,ff,ff] rfl rfl (by kernel_rfl) (fun _ _ _ h => h) ⟨Or.inl ⟨by rfl, ?_⟩, fun _ => rfl⟩ ?_ ?_
  rotate_left
  ·intro w'
   go_simp
   with_reducible rfl
  rotate_left
  ·show Act.put _ (some 24) _ = _
   simp only [Act.put, sA, sB, sC, i64_w, i32_w]
   rfl
  refine pureIn_ (i := 4) (N := some 26) (v := ?_) (a' := ?_) #[tt,tt,tt,ff,tt,ff,ff,ff,ff,ff,ff,ff,ff,ff,ff,ff,ff,ff,ff,ff,ff,ff,ff,ff,ff,ff,ff,ff,ff] rfl rfl (by kernel_rfl) (fun _ _ _ h => h) ⟨Or.inl ⟨by rfl, ?_⟩, fun _ => rfl⟩ ?_ ?_
  rotate_left
  ·intro w'
   go_simp
   with_reducible rfl
  rotate_left
  ·show Act.put _ (some 26) _ = _
   simp only [Act.put, sA, sB, sC, i64_w, i32_w]
   rfl
  refine pureIn_ (i := 5) (N := some 27) (v := ?_) (a' := ?_) #[tt,tt,tt,ff,tt,tt,ff,ff,ff,ff,ff,ff,ff,ff,ff,ff,ff,ff,ff,ff,ff,ff,ff,ff,ff,ff,ff,ff,ff] rfl rfl (by kernel_rfl) (fun _ _ _ h => h) ⟨Or.inl ⟨by rfl, ?_⟩, fun _ => rfl⟩ ?_ ?_
  rotate_left
  ·intro w'
   go_simp
   with_reducible rfl
  rotate_left
  ·show Act.put _ (some 27) _ = _
   simp only [Act.put, sA, sB, sC, i64_w, i32_w]
   rfl
  refine loadIn_ (i := 3) (N := some 25) (v := ?_) (a' := ?_) #[tt,tt,tt,tt,tt,tt,ff,ff,ff,ff,ff,ff,ff,ff,ff,ff,ff,ff,ff,ff,ff,ff,ff,ff,ff,ff,ff,ff,ff] rfl rfl (by kernel_rfl) ⟨by rfl, ?_, fun c hc => by cases hc⟩ ?_ ?_
  rotate_left
  ·go_simp
   with_reducible rfl
  rotate_left
  ·show Act.put _ (some 25) _ = _
   simp only [Act.put, sA, sB, sC, i64_w, i32_w]
   rfl
  refine oneIn_ (i := 6) (N := some 28) #[tt,tt,tt,tt,tt,tt,tt,ff,ff,ff,ff,ff,ff,ff,ff,ff,ff,ff,ff,ff,ff,ff,ff,ff,ff,ff,ff,ff,ff] rfl rfl (by kernel_rfl) (fun K hK => ?_)
  refine goesIn_ Tryz.func58 (by kernel_rfl) rfl #[.pointer l.adr, .func (.func 59) #[] #[], .func (.yield lp) #[] #[]] (by rfl) rfl rfl (by simp only [List.map_toArray, List.map_cons, List.map_nil]; rfl) ?_
  refine (callsIn_wide.1 (CL.out _ HJ1.out)).mono ?_
  rintro e w2 (⟨rfl, hj⟩ | ⟨rfl, q, hq, hj⟩)
  ·skip
   have HJ2 := Aside0.mk hj
   have d4 : w2.cell? ⟨b, 0, none⟩ = some (.string k) := (blk_cell (NODE.out _ _ hj).node 0).trans rfl
   have d5 : w2.cell? ⟨b, 1, none⟩ = some (.slice v.A v.n v.c) := (blk_cell (NODE.out _ _ hj).node 1).trans rfl
   have d6 : w2.cell? ⟨b, 2, none⟩ = some (.int .i64 v.s) := (blk_cell (NODE.out _ _ hj).node 2).trans rfl
   clear hj d3
   refine ⟨_, rfl, ?_⟩
   refine hK _ _ ?_
   clear hK K
   refine normIn_ (a' := ?_) ?_ ?_
   rotate_left
   ·show Act.put _ (some 28) _ = _
    simp only [Act.put, sA, sB, sC, i64_w, i32_w]
    rfl
   refine pureIn_ (i := 7) (N := some 29) (v := ?_) (a' := ?_) #[tt,tt,tt,tt,tt,tt,tt,tt,ff,ff,ff,ff,ff,ff,ff,ff,ff,ff,ff,ff,ff,ff,ff,ff,ff,ff,ff,ff,ff] rfl rfl (by kernel_rfl) (fun _ _ _ h => h) ⟨Or.inl ⟨by rfl, ?_⟩, fun _ => rfl⟩ ?_ ?_
   rotate_left
   ·intro w'
    go_simp
    with_reducible rfl
   rotate_left
   ·show Act.put _ (some 29) _ = _
    simp only [Act.put, sA, sB, sC, i64_w, i32_w]
    rfl
   refine pureIn_ (i := 8) (N := some 30) (v := ?_) (a' := ?_) #[tt,tt,tt,tt,tt,tt,tt,tt,tt,ff,ff,ff,ff,ff,ff,ff,ff,ff,ff,ff,ff,ff,ff,ff,ff,ff,ff,ff,ff] rfl rfl (by kernel_rfl) (fun _ _ _ h => h) ⟨Or.inl ⟨by rfl, ?_⟩, fun _ => rfl⟩ ?_ ?_
   rotate_left
   ·intro w'
    go_simp
    with_reducible rfl
   rotate_left
   ·show Act.put _ (some 30) _ = _
    simp only [Act.put, sA, sB, sC, i64_w, i32_w]
    rfl
   refine pureIn_ (i := 9) (N := some 31) (v := ?_) (a' := ?_) #[tt,tt,tt,tt,tt,tt,tt,tt,tt,tt,ff,ff,ff,ff,ff,ff,ff,ff,ff,ff,ff,ff,ff,ff,ff,ff,ff,ff,ff] rfl rfl (by kernel_rfl) (fun _ _ _ h => h) ⟨Or.inl ⟨by rfl, ?_⟩, fun _ => rfl⟩ ?_ ?_
   rotate_left
   ·intro w'
    go_simp
    with_reducible rfl
   rotate_left
   ·show Act.put _ (some 31) _ = _
    simp only [Act.put, sA, sB, sC, i64_w, i32_w]
    rfl
   refine pureIn_ (i := 10) (N := some 32) (v := ?_) (a' := ?_) #[tt,tt,tt,tt,tt,tt,tt,tt,tt,tt,tt,ff,ff,ff,ff,ff,ff,ff,ff,ff,ff,ff,ff,ff,ff,ff,ff,ff,ff] rfl rfl (by kernel_rfl) (fun _ _ _ h => h) ⟨Or.inl ⟨by rfl, ?_⟩, fun _ => rfl⟩ ?_ ?_
   rotate_left
   ·intro w'
    go_simp
    with_reducible rfl
   rotate_left
   ·show Act.put _ (some 32) _ = _
    simp only [Act.put, sA, sB, sC, i64_w, i32_w]
    rfl
   refine pureIn_ (i := 11) (N := some 33) (v := ?_) (a' := ?_) #[tt,tt,tt,tt,tt,tt,tt,tt,tt,tt,tt,tt,ff,ff,ff,ff,ff,ff,ff,ff,ff,ff,ff,ff,ff,ff,ff,ff,ff] rfl rfl (by kernel_rfl) (fun _ _ _ h => h) ⟨Or.inl ⟨by rfl, ?_⟩, fun _ => rfl⟩ ?_ ?_
   rotate_left
   ·intro w'
    go_simp
    with_reducible rfl
   rotate_left
   ·show Act.put _ (some 33) _ = _
    simp only [Act.put, sA, sB, sC, i64_w, i32_w]
    rfl
   refine pureIn_ (i := 13) (N := some 35) (v := ?_) (a' := ?_) #[tt,tt,tt,tt,tt,tt,tt,tt,tt,tt,tt,tt,ff,tt,ff,ff,ff,ff,ff,ff,ff,ff,ff,ff,ff,ff,ff,ff,ff] rfl rfl (by kernel_rfl) (fun _ _ _ h => h) ⟨Or.inl ⟨by rfl, ?_⟩, fun _ => rfl⟩ ?_ ?_
   rotate_left
   ·intro w'
    go_simp
    with_reducible rfl
   rotate_left
   ·show Act.put _ (some 35) _ = _
    simp only [Act.put, sA, sB, sC, i64_w, i32_w]
    rfl
   refine pureIn_ (i := 14) (N := some 36) (v := ?_) (a' := ?_) #[tt,tt,tt,tt,tt,tt,tt,tt,tt,tt,tt,tt,ff,tt,tt,ff,ff,ff,ff,ff,ff,ff,ff,ff,ff,ff,ff,ff,ff] rfl rfl (by kernel_rfl) (fun _ _ _ h => h) ⟨Or.inl ⟨by rfl, ?_⟩, fun _ => rfl⟩ ?_ ?_
   rotate_left
   ·intro w'
    go_simp
    with_reducible rfl
   rotate_left
   ·show Act.put _ (some 36) _ = _
    simp only [Act.put, sA, sB, sC, i64_w, i32_w]
    rfl
   refine pureIn_ (i := 15) (N := some 37) (v := ?_) (a' := ?_) #[tt,tt,tt,tt,tt,tt,tt,tt,tt,tt,tt,tt,ff,tt,tt,tt,ff,ff,ff,ff,ff,ff,ff,ff,ff,ff,ff,ff,ff] rfl rfl (by kernel_rfl) (fun _ _ _ h => h) ⟨Or.inl ⟨by rfl, ?_⟩, fun _ => rfl⟩ ?_ ?_
   rotate_left
   ·intro w'
    go_simp
    with_reducible rfl
   rotate_left
   ·show Act.put _ (some 37) _ = _
    simp only [Act.put, sA, sB, sC, i64_w, i32_w]
    rfl
   refine load2In_ (i := 12) (j := 16) (Ni := some 34) (Nj := some 38) (vi := ?vi) (vj := ?vj) (a1 := ?a1) (a2 := ?a2) (a' := ?a3) #[tt,tt,tt,tt,tt,tt,tt,tt,tt,tt,tt,tt,tt,tt,tt,tt,ff,ff,ff,ff,ff,ff,ff,ff,ff,ff,ff,ff,ff] #[tt,tt,tt,tt,tt,tt,tt,tt,tt,tt,tt,tt,ff,tt,tt,tt,tt,ff,ff,ff,ff,ff,ff,ff,ff,ff,ff,ff,ff] #[tt,tt,tt,tt,tt,tt,tt,tt,tt,tt,tt,tt,tt,tt,tt,tt,tt,ff,ff,ff,ff,ff,ff,ff,ff,ff,ff,ff,ff] rfl rfl rfl rfl (by kernel_rfl) ?h1 ?h2 ⟨?wr1, ?r1, fun c hc => by cases hc⟩ ⟨?wr2, ?r2, fun c hc => by cases hc⟩ ⟨?wr3, ?r3, fun c hc => by cases hc⟩ ⟨?wr4, ?r4, fun c hc => by cases hc⟩ ?h3 ?h4 ?hh
   case wr1 =>
    rfl
   case r1 =>
    go_simp
    try with_reducible rfl
   case wr2 =>
    rfl
   case r2 =>
    go_simp
    try with_reducible rfl
   case h1 =>
    show Act.put _ (some 34) _ = _
    simp only [Act.put, sA, sB, sC, i64_w, i32_w]
    try rfl
   case h2 =>
    show Act.put _ (some 38) _ = _
    simp only [Act.put, sA, sB, sC, i64_w, i32_w]
    try rfl
   case wr3 =>
    rfl
   case r3 =>
    go_simp
    try with_reducible rfl
   case wr4 =>
    rfl
   case r4 =>
    go_simp
    try with_reducible rfl
   case h3 =>
    show Act.put _ (some 38) _ = _
    simp only [Act.put, sA, sB, sC, i64_w, i32_w]
    try rfl
   case h4 =>
    show Act.put _ (some 34) _ = _
    simp only [Act.put, sA, sB, sC, i64_w, i32_w]
    try rfl
   refine oneIn_ (i := 17) (N := some 39) #[tt,tt,tt,tt,tt,tt,tt,tt,tt,tt,tt,tt,tt,tt,tt,tt,tt,tt,ff,ff,ff,ff,ff,ff,ff,ff,ff,ff,ff] rfl rfl (by kernel_rfl) (fun K hK => ?_)
   refine yieldsIn_ (m := m) (l := lp) #[.string k, v.val] (by rfl) rfl rfl (by rfl) (by simp only [List.map_toArray, List.map_cons, List.map_nil]; rfl) ?_
   obtain ⟨fn, tm, asg, bd, hy, hR⟩ := HY.out _ (k, v) _ HJ2.out PX.out.1
   refine ⟨fn, tm, asg, bd, hy, hR.mono ?_⟩
   clear hy hR
   rintro e w3 (⟨rfl, hj⟩ | ⟨rfl, hj⟩)
   ·skip
    have HJ3 := Aside0.mk hj
    have d7 : w3.cell? ⟨b, 4, none⟩ = some (.pointer r.adr) := (blk_cell (NODE.out _ _ hj).node 4).trans rfl
    clear hj d4 d5 d6
    refine ⟨_, rfl, ?_⟩
    refine hK _ _ ?_
    clear hK K
    refine normIn_ (a' := ?_) ?_ ?_
    rotate_left
    ·show Act.put _ (some 39) _ = _
     simp only [Act.put, sA, sB, sC, i64_w, i32_w]
     rfl
    refine pureIn_ (i := 18) (N := some 40) (v := ?_) (a' := ?_) #[tt,tt,tt,tt,tt,tt,tt,tt,tt,tt,tt,tt,tt,tt,tt,tt,tt,tt,tt,ff,ff,ff,ff,ff,ff,ff,ff,ff,ff] rfl rfl (by kernel_rfl) (fun _ _ _ h => h) ⟨Or.inl ⟨by rfl, ?_⟩, fun _ => rfl⟩ ?_ ?_
    rotate_left
    ·intro w'
     go_simp
     with_reducible rfl
    rotate_left
    ·show Act.put _ (some 40) _ = _
     simp only [Act.put, sA, sB, sC, i64_w, i32_w]
     rfl
    refine pureIn_ (i := 19) (N := some 41) (v := ?_) (a' := ?_) #[tt,tt,tt,tt,tt,tt,tt,tt,tt,tt,tt,tt,tt,tt,tt,tt,tt,tt,tt,tt,ff,ff,ff,ff,ff,ff,ff,ff,ff] rfl rfl (by kernel_rfl) (fun _ _ _ h => h) ⟨Or.inl ⟨by rfl, ?_⟩, fun _ => rfl⟩ ?_ ?_
    rotate_left
    ·intro w'
     go_simp
     with_reducible rfl
    rotate_left
    ·show Act.put _ (some 41) _ = _
     simp only [Act.put, sA, sB, sC, i64_w, i32_w]
     rfl
    refine pureIn_ (i := 20) (N := some 42) (v := ?_) (a' := ?_) #[tt,tt,tt,tt,tt,tt,tt,tt,tt,tt,tt,tt,tt,tt,tt,tt,tt,tt,tt,tt,tt,ff,ff,ff,ff,ff,ff,ff,ff] rfl rfl (by kernel_rfl) (fun _ _ _ h => h) ⟨Or.inl ⟨by rfl, ?_⟩, fun _ => rfl⟩ ?_ ?_
    rotate_left
    ·intro w'
     go_simp
     with_reducible rfl
    rotate_left
    ·show Act.put _ (some 42) _ = _
     simp only [Act.put, sA, sB, sC, i64_w, i32_w]
     rfl
    refine pureIn_ (i := 21) (N := some 43) (v := ?_) (a' := ?_) #[tt,tt,tt,tt,tt,tt,tt,tt,tt,tt,tt,tt,tt,tt,tt,tt,tt,tt,tt,tt,tt,tt,ff,ff,ff,ff,ff,ff,ff] rfl rfl (by kernel_rfl) (fun _ _ _ h => h) ⟨Or.inl ⟨by rfl, ?_⟩, fun _ => rfl⟩ ?_ ?_
    rotate_left
    ·intro w'
     go_simp
     with_reducible rfl
    rotate_left
    ·show Act.put _ (some 43) _ = _
     simp only [Act.put, sA, sB, sC, i64_w, i32_w]
     rfl
    refine pureIn_ (i := 22) (N := some 44) (v := ?_) (a' := ?_) #[tt,tt,tt,tt,tt,tt,tt,tt,tt,tt,tt,tt,tt,tt,tt,tt,tt,tt,tt,tt,tt,tt,tt,ff,ff,ff,ff,ff,ff] rfl rfl (by kernel_rfl) (fun _ _ _ h => h) ⟨Or.inl ⟨by rfl, ?_⟩, fun _ => rfl⟩ ?_ ?_
    rotate_left
    ·intro w'
     go_simp
     with_reducible rfl
    rotate_left
    ·show Act.put _ (some 44) _ = _
     simp only [Act.put, sA, sB, sC, i64_w, i32_w]
     rfl
    refine pureIn_ (i := 24) (N := some 46) (v := ?_) (a' := ?_) #[tt,tt,tt,tt,tt,tt,tt,tt,tt,tt,tt,tt,tt,tt,tt,tt,tt,tt,tt,tt,tt,tt,tt,ff,tt,ff,ff,ff,ff] rfl rfl (by kernel_rfl) (fun _ _ _ h => h) ⟨Or.inl ⟨by rfl, ?_⟩, fun _ => rfl⟩ ?_ ?_
    rotate_left
    ·intro w'
     go_simp
     with_reducible rfl
    rotate_left
    ·show Act.put _ (some 46) _ = _
     simp only [Act.put, sA, sB, sC, i64_w, i32_w]
     rfl
    refine pureIn_ (i := 25) (N := some 47) (v := ?_) (a' := ?_) #[tt,tt,tt,tt,tt,tt,tt,tt,tt,tt,tt,tt,tt,tt,tt,tt,tt,tt,tt,tt,tt,tt,tt,ff,tt,tt,ff,ff,ff] rfl rfl (by kernel_rfl) (fun _ _ _ h => h) ⟨Or.inl ⟨by rfl, ?_⟩, fun _ => rfl⟩ ?_ ?_
    rotate_left
    ·intro w'
     go_simp
     with_reducible rfl
    rotate_left
    ·show Act.put _ (some 47) _ = _
     simp only [Act.put, sA, sB, sC, i64_w, i32_w]
     rfl
    refine loadIn_ (i := 23) (N := some 45) (v := ?_) (a' := ?_) #[tt,tt,tt,tt,tt,tt,tt,tt,tt,tt,tt,tt,tt,tt,tt,tt,tt,tt,tt,tt,tt,tt,tt,tt,tt,tt,ff,ff,ff] rfl rfl (by kernel_rfl) ⟨by rfl, ?_, fun c hc => by cases hc⟩ ?_ ?_
    rotate_left
    ·go_simp
     with_reducible rfl
    rotate_left
    ·show Act.put _ (some 45) _ = _
     simp only [Act.put, sA, sB, sC, i64_w, i32_w]
     rfl
    refine oneIn_ (i := 26) (N := some 48) #[tt,tt,tt,tt,tt,tt,tt,tt,tt,tt,tt,tt,tt,tt,tt,tt,tt,tt,tt,tt,tt,tt,tt,tt,tt,tt,tt,ff,ff] rfl rfl (by kernel_rfl) (fun K hK => ?_)
    refine goesIn_ Tryz.func58 (by kernel_rfl) rfl #[.pointer r.adr, .func (.func 59) #[] #[], .func (.yield lp) #[] #[]] (by rfl) rfl rfl (by simp only [List.map_toArray, List.map_cons, List.map_nil]; rfl) ?_
    refine (callsIn_wide.1 (CR.out _ HJ3.out)).mono ?_
    rintro e w4 (⟨rfl, hj⟩ | ⟨rfl, q, hq, hj⟩)
    ·skip
     have FIN := Aside0.mk hj
     clear hj d7
     refine ⟨_, rfl, ?_⟩
     refine hK _ _ ?_
     clear hK K
     refine normIn_ (a' := ?_) ?_ ?_
     rotate_left
     ·show Act.put _ (some 48) _ = _
      simp only [Act.put, sA, sB, sC, i64_w, i32_w]
      rfl
     refine pureIn_ (i := 27) (N := some 49) (v := ?_) (a' := ?_) #[tt,tt,tt,tt,tt,tt,tt,tt,tt,tt,tt,tt,tt,tt,tt,tt,tt,tt,tt,tt,tt,tt,tt,tt,tt,tt,tt,tt,ff] rfl rfl (by kernel_rfl) (fun _ _ _ h => h) ⟨Or.inl ⟨by rfl, ?_⟩, fun _ => rfl⟩ ?_ ?_
     rotate_left
     ·intro w'
      go_simp
      with_reducible rfl
     rotate_left
     ·show Act.put _ (some 49) _ = _
      simp only [Act.put, sA, sB, sC, i64_w, i32_w]
      rfl
     refine pureIn_ (i := 28) (N := some 6) (v := ?_) (a' := ?_) #[tt,tt,tt,tt,tt,tt,tt,tt,tt,tt,tt,tt,tt,tt,tt,tt,tt,tt,tt,tt,tt,tt,tt,tt,tt,tt,tt,tt,tt] rfl rfl (by kernel_rfl) (fun _ _ _ h => h) ⟨Or.inl ⟨by rfl, ?_⟩, fun _ => rfl⟩ ?_ ?_
     rotate_left
     ·intro w'
      go_simp
      with_reducible rfl
     rotate_left
     ·show Act.put _ (some 6) _ = _
      simp only [Act.put, sA, sB, sC, i64_w, i32_w]
      rfl
     refine wpAnyIn_done (by kernel_rfl) ?_ _
     gi_wp2
     exact bodyPost_ret (v := .bool true) (by simp [results, Tryz.results58, go_sem]) rfl (.inl ⟨rfl, by rw [← PX.out.2]; exact FIN.out⟩)
    ·skip
     have FIN := Aside0.mk (And.intro hq hj)
     clear hq hj d7
     refine ⟨_, rfl, ?_⟩
     refine hK _ _ ?_
     clear hK K
     refine normIn_ (a' := ?_) ?_ ?_
     rotate_left
     ·show Act.put _ (some 48) _ = _
      simp only [Act.put, sA, sB, sC, i64_w, i32_w]
      rfl
     refine pureIn_ (i := 27) (N := some 49) (v := ?_) (a' := ?_) #[tt,tt,tt,tt,tt,tt,tt,tt,tt,tt,tt,tt,tt,tt,tt,tt,tt,tt,tt,tt,tt,tt,tt,tt,tt,tt,tt,tt,ff] rfl rfl (by kernel_rfl) (fun _ _ _ h => h) ⟨Or.inl ⟨by rfl, ?_⟩, fun _ => rfl⟩ ?_ ?_
     rotate_left
     ·intro w'
      go_simp
      with_reducible rfl
     rotate_left
     ·show Act.put _ (some 49) _ = _
      simp only [Act.put, sA, sB, sC, i64_w, i32_w]
      rfl
     refine pureIn_ (i := 28) (N := some 6) (v := ?_) (a' := ?_) #[tt,tt,tt,tt,tt,tt,tt,tt,tt,tt,tt,tt,tt,tt,tt,tt,tt,tt,tt,tt,tt,tt,tt,tt,tt,tt,tt,tt,tt] rfl rfl (by kernel_rfl) (fun _ _ _ h => h) ⟨Or.inl ⟨by rfl, ?_⟩, fun _ => rfl⟩ ?_ ?_
     rotate_left
     ·intro w'
      go_simp
      with_reducible rfl
     rotate_left
     ·show Act.put _ (some 6) _ = _
      simp only [Act.put, sA, sB, sC, i64_w, i32_w]
      rfl
     refine wpAnyIn_done (by kernel_rfl) ?_ _
     gi_wp2
     exact bodyPost_ret (v := .bool false) (by simp [results, Tryz.results58, go_sem]) rfl (.inr ⟨rfl, _, FIN.out.1, FIN.out.2⟩)
   ·skip
    have FIN := Aside0.mk (And.intro PX.out.1 hj)
    clear hj d4 d5 d6
    refine ⟨_, rfl, ?_⟩
    refine hK _ _ ?_
    clear hK K
    refine normIn_ (a' := ?_) ?_ ?_
    rotate_left
    ·show Act.put _ (some 39) _ = _
     simp only [Act.put, sA, sB, sC, i64_w, i32_w]
     rfl
    refine pureIn_ (i := 18) (N := some 40) (v := ?_) (a' := ?_) #[tt,tt,tt,tt,tt,tt,tt,tt,tt,tt,tt,tt,tt,tt,tt,tt,tt,tt,tt,ff,ff,ff,ff,ff,ff,ff,ff,ff,ff] rfl rfl (by kernel_rfl) (fun _ _ _ h => h) ⟨Or.inl ⟨by rfl, ?_⟩, fun _ => rfl⟩ ?_ ?_
    rotate_left
    ·intro w'
     go_simp
     with_reducible rfl
    rotate_left
    ·show Act.put _ (some 40) _ = _
     simp only [Act.put, sA, sB, sC, i64_w, i32_w]
     rfl
    refine pureIn_ (i := 19) (N := some 41) (v := ?_) (a' := ?_) #[tt,tt,tt,tt,tt,tt,tt,tt,tt,tt,tt,tt,tt,tt,tt,tt,tt,tt,tt,tt,ff,ff,ff,ff,ff,ff,ff,ff,ff] rfl rfl (by kernel_rfl) (fun _ _ _ h => h) ⟨Or.inl ⟨by rfl, ?_⟩, fun _ => rfl⟩ ?_ ?_
    rotate_left
    ·intro w'
     go_simp
     with_reducible rfl
    rotate_left
    ·show Act.put _ (some 41) _ = _
     simp only [Act.put, sA, sB, sC, i64_w, i32_w]
     rfl
    refine pureIn_ (i := 20) (N := some 42) (v := undef) (a' := ?_) #[tt,tt,tt,tt,tt,tt,tt,tt,tt,tt,tt,tt,tt,tt,tt,tt,tt,tt,tt,tt,tt,ff,ff,ff,ff,ff,ff,ff,ff] rfl rfl (by kernel_rfl) (fun _ _ _ h => h) ⟨Or.inr ⟨by rfl, rfl⟩, fun _ => rfl⟩ ?_ ?_
    rotate_left
    ·show Act.put _ (some 42) _ = _
     simp only [Act.put, sA, sB, sC, i64_w, i32_w]
     rfl
    refine pureIn_ (i := 21) (N := some 43) (v := undef) (a' := ?_) #[tt,tt,tt,tt,tt,tt,tt,tt,tt,tt,tt,tt,tt,tt,tt,tt,tt,tt,tt,tt,tt,tt,ff,ff,ff,ff,ff,ff,ff] rfl rfl (by kernel_rfl) (fun _ _ _ h => h) ⟨Or.inr ⟨by rfl, rfl⟩, fun _ => rfl⟩ ?_ ?_
    rotate_left
    ·show Act.put _ (some 43) _ = _
     simp only [Act.put, sA, sB, sC, i64_w, i32_w]
     rfl
    refine pureIn_ (i := 22) (N := some 44) (v := undef) (a' := ?_) #[tt,tt,tt,tt,tt,tt,tt,tt,tt,tt,tt,tt,tt,tt,tt,tt,tt,tt,tt,tt,tt,tt,tt,ff,ff,ff,ff,ff,ff] rfl rfl (by kernel_rfl) (fun _ _ _ h => h) ⟨Or.inr ⟨by rfl, rfl⟩, fun _ => rfl⟩ ?_ ?_
    rotate_left
    ·show Act.put _ (some 44) _ = _
     simp only [Act.put, sA, sB, sC, i64_w, i32_w]
     rfl
    refine pureIn_ (i := 23) (N := some 45) (v := undef) (a' := ?_) #[tt,tt,tt,tt,tt,tt,tt,tt,tt,tt,tt,tt,tt,tt,tt,tt,tt,tt,tt,tt,tt,tt,tt,tt,ff,ff,ff,ff,ff] rfl rfl (by kernel_rfl) (fun _ _ _ h => h) ⟨Or.inr ⟨by rfl, rfl⟩, fun _ => rfl⟩ ?_ ?_
    rotate_left
    ·show Act.put _ (some 45) _ = _
     simp only [Act.put, sA, sB, sC, i64_w, i32_w]
     rfl
    refine pureIn_ (i := 24) (N := some 46) (v := undef) (a' := ?_) #[tt,tt,tt,tt,tt,tt,tt,tt,tt,tt,tt,tt,tt,tt,tt,tt,tt,tt,tt,tt,tt,tt,tt,tt,tt,ff,ff,ff,ff] rfl rfl (by kernel_rfl) (fun _ _ _ h => h) ⟨Or.inr ⟨by rfl, rfl⟩, fun _ => rfl⟩ ?_ ?_
    rotate_left
    ·show Act.put _ (some 46) _ = _
     simp only [Act.put, sA, sB, sC, i64_w, i32_w]
     rfl
    refine pureIn_ (i := 25) (N := some 47) (v := undef) (a' := ?_) #[tt,tt,tt,tt,tt,tt,tt,tt,tt,tt,tt,tt,tt,tt,tt,tt,tt,tt,tt,tt,tt,tt,tt,tt,tt,tt,ff,ff,ff] rfl rfl (by kernel_rfl) (fun _ _ _ h => h) ⟨Or.inr ⟨by rfl, rfl⟩, fun _ => rfl⟩ ?_ ?_
    rotate_left
    ·show Act.put _ (some 47) _ = _
     simp only [Act.put, sA, sB, sC, i64_w, i32_w]
     rfl
    refine skipIn_ (i := 26) (N := some 48) (a' := ?_) #[tt,tt,tt,tt,tt,tt,tt,tt,tt,tt,tt,tt,tt,tt,tt,tt,tt,tt,tt,tt,tt,tt,tt,tt,tt,tt,tt,ff,ff] rfl rfl (by kernel_rfl) (by rfl) ?_ ?_
    rotate_left
    ·show Act.put _ (some 48) _ = _
     simp only [Act.put, sA, sB, sC, i64_w, i32_w]
     rfl
    refine pureIn_ (i := 27) (N := some 49) (v := ?_) (a' := ?_) #[tt,tt,tt,tt,tt,tt,tt,tt,tt,tt,tt,tt,tt,tt,tt,tt,tt,tt,tt,tt,tt,tt,tt,tt,tt,tt,tt,tt,ff] rfl rfl (by kernel_rfl) (fun _ _ _ h => h) ⟨Or.inl ⟨by rfl, ?_⟩, fun _ => rfl⟩ ?_ ?_
    rotate_left
    ·intro w'
     go_simp
     with_reducible rfl
    rotate_left
    ·show Act.put _ (some 49) _ = _
     simp only [Act.put, sA, sB, sC, i64_w, i32_w]
     rfl
    refine pureIn_ (i := 28) (N := some 6) (v := ?_) (a' := ?_) #[tt,tt,tt,tt,tt,tt,tt,tt,tt,tt,tt,tt,tt,tt,tt,tt,tt,tt,tt,tt,tt,tt,tt,tt,tt,tt,tt,tt,tt] rfl rfl (by kernel_rfl) (fun _ _ _ h => h) ⟨Or.inl ⟨by rfl, ?_⟩, fun _ => rfl⟩ ?_ ?_
    rotate_left
    ·intro w'
     go_simp
     with_reducible rfl
    rotate_left
    ·show Act.put _ (some 6) _ = _
     simp only [Act.put, sA, sB, sC, i64_w, i32_w]
     rfl
    refine wpAnyIn_done (by kernel_rfl) ?_ _
    gi_wp2
    exact bodyPost_ret (v := .bool false) (by simp [results, Tryz.results58, go_sem]) rfl (.inr ⟨rfl, _, FIN.out.1, FIN.out.2⟩)
  ·skip
   have FIN := Aside0.mk (And.intro hq hj)
   clear hq hj d3
   refine ⟨_, rfl, ?_⟩
   refine hK _ _ ?_
   clear hK K
   refine normIn_ (a' := ?_) ?_ ?_
   rotate_left
   ·show Act.put _ (some 28) _ = _
    simp only [Act.put, sA, sB, sC, i64_w, i32_w]
    rfl
   refine pureIn_ (i := 7) (N := some 29) (v := ?_) (a' := ?_) #[tt,tt,tt,tt,tt,tt,tt,tt,ff,ff,ff,ff,ff,ff,ff,ff,ff,ff,ff,ff,ff,ff,ff,ff,ff,ff,ff,ff,ff] rfl rfl (by kernel_rfl) (fun _ _ _ h => h) ⟨Or.inl ⟨by rfl, ?_⟩, fun _ => rfl⟩ ?_ ?_
   rotate_left
   ·intro w'
    go_simp
    with_reducible rfl
   rotate_left
   ·show Act.put _ (some 29) _ = _
    simp only [Act.put, sA, sB, sC, i64_w, i32_w]
    rfl
   refine pureIn_ (i := 8) (N := some 30) (v := undef) (a' := ?_) #[tt,tt,tt,tt,tt,tt,tt,tt,tt,ff,ff,ff,ff,ff,ff,ff,ff,ff,ff,ff,ff,ff,ff,ff,ff,ff,ff,ff,ff] rfl rfl (by kernel_rfl) (fun _ _ _ h => h) ⟨Or.inr ⟨by rfl, rfl⟩, fun _ => rfl⟩ ?_ ?_
   rotate_left
   ·show Act.put _ (some 30) _ = _
    simp only [Act.put, sA, sB, sC, i64_w, i32_w]
    rfl
   refine pureIn_ (i := 9) (N := some 31) (v := undef) (a' := ?_) #[tt,tt,tt,tt,tt,tt,tt,tt,tt,tt,ff,ff,ff,ff,ff,ff,ff,ff,ff,ff,ff,ff,ff,ff,ff,ff,ff,ff,ff] rfl rfl (by kernel_rfl) (fun _ _ _ h => h) ⟨Or.inr ⟨by rfl, rfl⟩, fun _ => rfl⟩ ?_ ?_
   rotate_left
   ·show Act.put _ (some 31) _ = _
    simp only [Act.put, sA, sB, sC, i64_w, i32_w]
    rfl
   refine pureIn_ (i := 10) (N := some 32) (v := undef) (a' := ?_) #[tt,tt,tt,tt,tt,tt,tt,tt,tt,tt,tt,ff,ff,ff,ff,ff,ff,ff,ff,ff,ff,ff,ff,ff,ff,ff,ff,ff,ff] rfl rfl (by kernel_rfl) (fun _ _ _ h => h) ⟨Or.inr ⟨by rfl, rfl⟩, fun _ => rfl⟩ ?_ ?_
   rotate_left
   ·show Act.put _ (some 32) _ = _
    simp only [Act.put, sA, sB, sC, i64_w, i32_w]
    rfl
   refine pureIn_ (i := 11) (N := some 33) (v := undef) (a' := ?_) #[tt,tt,tt,tt,tt,tt,tt,tt,tt,tt,tt,tt,ff,ff,ff,ff,ff,ff,ff,ff,ff,ff,ff,ff,ff,ff,ff,ff,ff] rfl rfl (by kernel_rfl) (fun _ _ _ h => h) ⟨Or.inr ⟨by rfl, rfl⟩, fun _ => rfl⟩ ?_ ?_
   rotate_left
   ·show Act.put _ (some 33) _ = _
    simp only [Act.put, sA, sB, sC, i64_w, i32_w]
    rfl
   refine pureIn_ (i := 12) (N := some 34) (v := undef) (a' := ?_) #[tt,tt,tt,tt,tt,tt,tt,tt,tt,tt,tt,tt,tt,ff,ff,ff,ff,ff,ff,ff,ff,ff,ff,ff,ff,ff,ff,ff,ff] rfl rfl (by kernel_rfl) (fun _ _ _ h => h) ⟨Or.inr ⟨by rfl, rfl⟩, fun _ => rfl⟩ ?_ ?_
   rotate_left
   ·show Act.put _ (some 34) _ = _
    simp only [Act.put, sA, sB, sC, i64_w, i32_w]
    rfl
   refine pureIn_ (i := 13) (N := some 35) (v := undef) (a' := ?_) #[tt,tt,tt,tt,tt,tt,tt,tt,tt,tt,tt,tt,tt,tt,ff,ff,ff,ff,ff,ff,ff,ff,ff,ff,ff,ff,ff,ff,ff] rfl rfl (by kernel_rfl) (fun _ _ _ h => h) ⟨Or.inr ⟨by rfl, rfl⟩, fun _ => rfl⟩ ?_ ?_
   rotate_left
   ·show Act.put _ (some 35) _ = _
    simp only [Act.put, sA, sB, sC, i64_w, i32_w]
    rfl
   refine pureIn_ (i := 14) (N := some 36) (v := undef) (a' := ?_) #[tt,tt,tt,tt,tt,tt,tt,tt,tt,tt,tt,tt,tt,tt,tt,ff,ff,ff,ff,ff,ff,ff,ff,ff,ff,ff,ff,ff,ff] rfl rfl (by kernel_rfl) (fun _ _ _ h => h) ⟨Or.inr ⟨by rfl, rfl⟩, fun _ => rfl⟩ ?_ ?_
   rotate_left
   ·show Act.put _ (some 36) _ = _
    simp only [Act.put, sA, sB, sC, i64_w, i32_w]
    rfl
   refine pureIn_ (i := 15) (N := some 37) (v := undef) (a' := ?_) #[tt,tt,tt,tt,tt,tt,tt,tt,tt,tt,tt,tt,tt,tt,tt,tt,ff,ff,ff,ff,ff,ff,ff,ff,ff,ff,ff,ff,ff] rfl rfl (by kernel_rfl) (fun _ _ _ h => h) ⟨Or.inr ⟨by rfl, rfl⟩, fun _ => rfl⟩ ?_ ?_
   rotate_left
   ·show Act.put _ (some 37) _ = _
    simp only [Act.put, sA, sB, sC, i64_w, i32_w]
    rfl
   refine pureIn_ (i := 16) (N := some 38) (v := undef) (a' := ?_) #[tt,tt,tt,tt,tt,tt,tt,tt,tt,tt,tt,tt,tt,tt,tt,tt,tt,ff,ff,ff,ff,ff,ff,ff,ff,ff,ff,ff,ff] rfl rfl (by kernel_rfl) (fun _ _ _ h => h) ⟨Or.inr ⟨by rfl, rfl⟩, fun _ => rfl⟩ ?_ ?_
   rotate_left
   ·show Act.put _ (some 38) _ = _
    simp only [Act.put, sA, sB, sC, i64_w, i32_w]
    rfl
   refine skipIn_ (i := 17) (N := some 39) (a' := ?_) #[tt,tt,tt,tt,tt,tt,tt,tt,tt,tt,tt,tt,tt,tt,tt,tt,tt,tt,ff,ff,ff,ff,ff,ff,ff,ff,ff,ff,ff] rfl rfl (by kernel_rfl) (by rfl) ?_ ?_
   rotate_left
   ·show Act.put _ (some 39) _ = _
    simp only [Act.put, sA, sB, sC, i64_w, i32_w]
    rfl
   refine pureIn_ (i := 18) (N := some 40) (v := ?_) (a' := ?_) #[tt,tt,tt,tt,tt,tt,tt,tt,tt,tt,tt,tt,tt,tt,tt,tt,tt,tt,tt,ff,ff,ff,ff,ff,ff,ff,ff,ff,ff] rfl rfl (by kernel_rfl) (fun _ _ _ h => h) ⟨Or.inl ⟨by rfl, ?_⟩, fun _ => rfl⟩ ?_ ?_
   rotate_left
   ·intro w'
    go_simp
    with_reducible rfl
   rotate_left
   ·show Act.put _ (some 40) _ = _
    simp only [Act.put, sA, sB, sC, i64_w, i32_w]
    rfl
   refine pureIn_ (i := 19) (N := some 41) (v := ?_) (a' := ?_) #[tt,tt,tt,tt,tt,tt,tt,tt,tt,tt,tt,tt,tt,tt,tt,tt,tt,tt,tt,tt,ff,ff,ff,ff,ff,ff,ff,ff,ff] rfl rfl (by kernel_rfl) (fun _ _ _ h => h) ⟨Or.inl ⟨by rfl, ?_⟩, fun _ => rfl⟩ ?_ ?_
   rotate_left
   ·intro w'
    go_simp
    with_reducible rfl
   rotate_left
   ·show Act.put _ (some 41) _ = _
    simp only [Act.put, sA, sB, sC, i64_w, i32_w]
    rfl
   refine pureIn_ (i := 20) (N := some 42) (v := undef) (a' := ?_) #[tt,tt,tt,tt,tt,tt,tt,tt,tt,tt,tt,tt,tt,tt,tt,tt,tt,tt,tt,tt,tt,ff,ff,ff,ff,ff,ff,ff,ff] rfl rfl (by kernel_rfl) (fun _ _ _ h => h) ⟨Or.inr ⟨by rfl, rfl⟩, fun _ => rfl⟩ ?_ ?_
   rotate_left
   ·show Act.put _ (some 42) _ = _
    simp only [Act.put, sA, sB, sC, i64_w, i32_w]
    rfl
   refine pureIn_ (i := 21) (N := some 43) (v := undef) (a' := ?_) #[tt,tt,tt,tt,tt,tt,tt,tt,tt,tt,tt,tt,tt,tt,tt,tt,tt,tt,tt,tt,tt,tt,ff,ff,ff,ff,ff,ff,ff] rfl rfl (by kernel_rfl) (fun _ _ _ h => h) ⟨Or.inr ⟨by rfl, rfl⟩, fun _ => rfl⟩ ?_ ?_
   rotate_left
   ·show Act.put _ (some 43) _ = _
    simp only [Act.put, sA, sB, sC, i64_w, i32_w]
    rfl
   refine pureIn_ (i := 22) (N := some 44) (v := undef) (a' := ?_) #[tt,tt,tt,tt,tt,tt,tt,tt,tt,tt,tt,tt,tt,tt,tt,tt,tt,tt,tt,tt,tt,tt,tt,ff,ff,ff,ff,ff,ff] rfl rfl (by kernel_rfl) (fun _ _ _ h => h) ⟨Or.inr ⟨by rfl, rfl⟩, fun _ => rfl⟩ ?_ ?_
   rotate_left
   ·show Act.put _ (some 44) _ = _
    simp only [Act.put, sA, sB, sC, i64_w, i32_w]
    rfl
   refine pureIn_ (i := 23) (N := some 45) (v := undef) (a' := ?_) #[tt,tt,tt,tt,tt,tt,tt,tt,tt,tt,tt,tt,tt,tt,tt,tt,tt,tt,tt,tt,tt,tt,tt,tt,ff,ff,ff,ff,ff] rfl rfl (by kernel_rfl) (fun _ _ _ h => h) ⟨Or.inr ⟨by rfl, rfl⟩, fun _ => rfl⟩ ?_ ?_
   rotate_left
   ·show Act.put _ (some 45) _ = _
    simp only [Act.put, sA, sB, sC, i64_w, i32_w]
    rfl
   refine pureIn_ (i := 24) (N := some 46) (v := undef) (a' := ?_) #[tt,tt,tt,tt,tt,tt,tt,tt,tt,tt,tt,tt,tt,tt,tt,tt,tt,tt,tt,tt,tt,tt,tt,tt,tt,ff,ff,ff,ff] rfl rfl (by kernel_rfl) (fun _ _ _ h => h) ⟨Or.inr ⟨by rfl, rfl⟩, fun _ => rfl⟩ ?_ ?_
   rotate_left
   ·show Act.put _ (some 46) _ = _
    simp only [Act.put, sA, sB, sC, i64_w, i32_w]
    rfl
   refine pureIn_ (i := 25) (N := some 47) (v := undef) (a' := ?_) #[tt,tt,tt,tt,tt,tt,tt,tt,tt,tt,tt,tt,tt,tt,tt,tt,tt,tt,tt,tt,tt,tt,tt,tt,tt,tt,ff,ff,ff] rfl rfl (by kernel_rfl) (fun _ _ _ h => h) ⟨Or.inr ⟨by rfl, rfl⟩, fun _ => rfl⟩ ?_ ?_
   rotate_left
   ·show Act.put _ (some 47) _ = _
    simp only [Act.put, sA, sB, sC, i64_w, i32_w]
    rfl
   refine skipIn_ (i := 26) (N := some 48) (a' := ?_) #[tt,tt,tt,tt,tt,tt,tt,tt,tt,tt,tt,tt,tt,tt,tt,tt,tt,tt,tt,tt,tt,tt,tt,tt,tt,tt,tt,ff,ff] rfl rfl (by kernel_rfl) (by rfl) ?_ ?_
   rotate_left
   ·show Act.put _ (some 48) _ = _
    simp only [Act.put, sA, sB, sC, i64_w, i32_w]
    rfl
   refine pureIn_ (i := 27) (N := some 49) (v := ?_) (a' := ?_) #[tt,tt,tt,tt,tt,tt,tt,tt,tt,tt,tt,tt,tt,tt,tt,tt,tt,tt,tt,tt,tt,tt,tt,tt,tt,tt,tt,tt,ff] rfl rfl (by kernel_rfl) (fun _ _ _ h => h) ⟨Or.inl ⟨by rfl, ?_⟩, fun _ => rfl⟩ ?_ ?_
   rotate_left
   ·intro w'
    go_simp
    with_reducible rfl
   rotate_left
   ·show Act.put _ (some 49) _ = _
    simp only [Act.put, sA, sB, sC, i64_w, i32_w]
    rfl
   refine pureIn_ (i := 28) (N := some 6) (v := ?_) (a' := ?_) #[tt,tt,tt,tt,tt,tt,tt,tt,tt,tt,tt,tt,tt,tt,tt,tt,tt,tt,tt,tt,tt,tt,tt,tt,tt,tt,tt,tt,tt] rfl rfl (by kernel_rfl) (fun _ _ _ h => h) ⟨Or.inl ⟨by rfl, ?_⟩, fun _ => rfl⟩ ?_ ?_
   rotate_left
   ·intro w'
    go_simp
    with_reducible rfl
   rotate_left
   ·show Act.put _ (some 6) _ = _
    simp only [Act.put, sA, sB, sC, i64_w, i32_w]
    rfl
   refine wpAnyIn_done (by kernel_rfl) ?_ _
   gi_wp2
   exact bodyPost_ret (v := .bool false) (by simp [results, Tryz.results58, go_sem]) rfl (.inr ⟨rfl, _, FIN.out.1, FIN.out.2⟩)
end Go.Proofs.YtdooajmgfoobfaaGreatDoor.H
namespace Go.Proofs.YtdooajmgfoobfaaGreatDoor.H
open Go.RowKit Go.Proofs.YtdooajmgfoobfaaGreatDoor.PA Go.Proofs.YtdooajmgfoobfaaGreatDoorW.PrintWords Go.Proofs.YtdooajmgfoobfaaGreatDoorW.PrintLast Go.Proofs.YtdooajmgfoobfaaGreatDoorW.PrintMore
set_option linter.unusedVariables false
set_option linter.unusedSimpArgs false
/-- What a round leaves: the rack, as it was. -/
def KpR (rk : Nat) (T : Tr FV) (A B : World) : Prop := RackAt A rk T → RackAt B rk T
theorem RF_cells {w : World} {rk : Nat} {T : Tr FV} (h : RackAt w rk T) : ∀ i, RF rk T i → ∃ cs t, w.heap[i]? = some (.cells cs t (0, 0)) := by
  intro i hi
  rcases hi with rfl | hi
  · exact ⟨_, _, h.blk⟩
  · have key : ∀ t : Tr FV, At w t → i ∈ t.ids → ∃ cs tt, w.heap[i]? = some (.cells cs tt (0, 0)) := by
      intro t
      induction t with
      | nil => intro _ h; simp [Tr.ids] at h
      | node b k v l r hh m ihl ihr =>
        intro ht hm
        simp only [Tr.ids, List.mem_append, List.mem_cons] at hm
        rcases hm with hm | rfl | hm
        · exact ihl ht.left hm
        · exact ⟨_, _, ht.node⟩
        · exact ihr ht.right hm
    exact key T h.tree hi
theorem RackAt.putObj {W : World} {rk : Nat} {T : Tr FV} (h : RackAt W rk T) {l : Nat} {o o' : Obj} (hl : W.heap[l]? = some o) (ho : o.isCells = false) : RackAt (W.putObj l o') rk T :=
  h.keep (fun i hi _ => World.putObj_heap_other (by
    rintro rfl
    obtain ⟨cs, t, hc⟩ := RF_cells h _ hi
    rw [hl] at hc
    cases hc
    cases ho))
theorem RackAt.grown {W W' : World} {rk : Nat} {T : Tr FV} {row : Option Nat} (h : RackAt W rk T) (hg : W.grownBy W' row) (hr : ∀ r, row = some r → ∃ o : Obj, W.heap[r]? = some o ∧ o.isCells = false) : RackAt W' rk T :=
  h.keep (fun i hi hs => hg.block i hs (fun e => by
    obtain ⟨o, ho, hc⟩ := hr i e.symm
    obtain ⟨cs, t, h2⟩ := RF_cells h i hi
    rw [ho] at h2
    cases h2
    cases hc))
theorem kpR_putObj (rk : Nat) (T : Tr FV) (W : World) (l : Nat) (o o' : Obj) (hl : W.heap[l]? = some o) (ho : o.isCells = false) : KpR rk T W (W.putObj l o') := fun h => h.putObj hl ho
set_option maxRecDepth 100000 in
set_option maxHeartbeats 8000000 in
theorem all1_in (n m lp bx rk : Nat) (T : Tr FV) (W : World) (J Jx : List (ByteArray × FV) → World → Prop) (hd : ∀ s A, J s A → J s A.drew)
    (hY : ∀ pre x W1, J pre W1 → pre ++ [x] <+: T.toL → YieldAt Fence.wide m Tryz.prog lp (entA x) W1 fun e W' => (e = .returned (.bool true) ∧ J (pre ++ [x]) W' ∧ KpR rk T W1 W') ∨ (e = .returned (.bool false) ∧ Jx (pre ++ [x]) W'))
    (hb : W.heap[bx]? = some (.cells #[.pointer (some ⟨rk, 0, none⟩)] 48 (0, 0))) (hr : RackAt W rk T) (h0 : J [] W) :
    CallsIn Fence.wide n Tryz.prog 57 #[.func (.yield lp) #[] #[], .pointer (some ⟨bx, 0, none⟩)] W fun e W' => (∃ v, e = .returned v) ∧
      ((∃ xs, xs = T.toL ∧ J xs W') ∨ ∃ pre, pre <+: T.toL ∧ Jx pre W') := by
  have hc := up_in m lp T (fun s A => J s A ∧ RackAt A rk T) Jx (fun s A h => ⟨hd s A h.1, h.2.keep (fun _ _ _ => rfl)⟩)
    (fun pre x W1 h hp => by
      obtain ⟨fn, tm, asg, bd, hy, hR⟩ := hY pre x W1 h.1 hp
      refine ⟨fn, tm, asg, bd, hy, hR.mono ?_⟩
      rintro e W' (⟨rfl, h1, h2⟩ | ⟨rfl, h1⟩)
      · exact .inl ⟨rfl, h1, h2 h.2⟩
      · exact .inr ⟨rfl, h1⟩) (fun pre W1 h => h.2.tree) T (fun _ h => h) (n - 1) [] W (by simp) ⟨h0, hr⟩
  have d0 := blk_cell hb 0
  have d1 : W.cell? ⟨rk, 1, none⟩ = some (.pointer T.adr) := (blk_cell hr.blk 1).trans rfl
  have HC := Aside0.mk hc
  clear hc hb hr h0 hY hd
  refine callsIn_of_wp Tryz.func57 rfl trivial ?_ rfl
  simp only [Tryz.ntmps57, List.size_toArray, List.length_cons, List.length_nil, Nat.reduceAdd, Nat.reduceSub, Array.replicate_succ, Array.replicate_zero, List.push_toArray, List.append_toArray, List.nil_append, List.cons_append]
  gi_wp2_with fail
  refine ⟨trivial, fun h => by simp [Fence.wide] at h, ?_⟩
  refine HC.out.mono ?_
  clear HC
  rintro e w1 (⟨rfl, hj⟩ | ⟨rfl, q, hq, hj⟩)
  · have FIN := Aside0.mk (show J T.toL w1 by simpa using hj.1)
    clear hj
    gi_wp2
    exact bodyPost_end (results_none rfl _ _ _) rfl ⟨⟨_, rfl⟩, .inl ⟨_, rfl, FIN.out⟩⟩
  · have FIN := Aside0.mk (And.intro hq hj)
    clear hj hq
    gi_wp2
    exact bodyPost_end (results_none rfl _ _ _) rfl ⟨⟨_, rfl⟩, .inr ⟨_, FIN.out.1, FIN.out.2⟩⟩
theorem drew_grown (W : World) : W.grownBy W.drew none := ⟨rfl, rfl, rfl, Nat.le_refl _, fun _ _ _ => rfl⟩
theorem all_hands (n : Nat) (bx rk : Nat) (T : Tr FV) (W : World) (hb : W.heap[bx]? = some (.cells #[.pointer (some ⟨rk, 0, none⟩)] 48 (0, 0))) (hr : RackAt W rk T) :
    Hands Fence.wide n Tryz.prog 57 #[.pointer (some ⟨bx, 0, none⟩)] entA (fun x _ => x ∈ T.toL) (KpR rk T) (fun _ _ => False) (fun xs => xs = T.toL) (fun pre => pre <+: T.toL) T.toL.length W := fun lp J Jx V hV hJ _ _ _ hY h0 =>
  all1_in n (n - 1) lp bx rk T V J Jx (fun s A h => hJ s A A.drew none h (drew_grown A) (by nofun))
    (fun pre x W1 hj hp => hY pre x W1 hj (hp.subset (by simp)) (by have := hp.length_le; simp at this; omega)) (blk_below hb hV) (hr.below hV) h0
set_option maxRecDepth 100000 in
theorem All_calls (rk : Nat) (w : World) : Calls Tryz.prog 31 #[.pointer (some ⟨rk, 0, none⟩)] w fun e w' => e = .returned (.func (.func 57) #[] #[.pointer (some ⟨w.heap.size, 0, none⟩)]) ∧ w' = w.alloc (.cells #[.pointer (some ⟨rk, 0, none⟩)] 48) := by
  go_enter Tryz.func31, Tryz.ntmps31
  go_wp2
  go_ret
  exact ⟨rfl, rfl⟩
end Go.Proofs.YtdooajmgfoobfaaGreatDoor.H

