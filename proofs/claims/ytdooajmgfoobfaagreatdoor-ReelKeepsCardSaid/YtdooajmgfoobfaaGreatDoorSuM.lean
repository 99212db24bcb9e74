/- A disk in memory; New, Fuse, step. -/
import Derived.Test.YtdooajmgfoobfaaGreatDoorRlC
import Derived.Lib.LazyBuf
import Derived.Test.YtdooajmgfoobfaaGreatDoorRkW
namespace Go.Proofs.YtdooajmgfoobfaaGreatDoor.H
open Go.RowKit Go.Shelf Go.Proofs.YtdooajmgfoobfaaGreatDoor.PA Go.Proofs.YtdooajmgfoobfaaGreatDoorW.PrintWords Go.Proofs.YtdooajmgfoobfaaGreatDoorW.PrintLast Go.Proofs.YtdooajmgfoobfaaGreatDoorW.PrintMore
set_option linter.unusedVariables false
set_option linter.unusedSimpArgs false
def upB (n : Int) : List Int := if 0 ≤ n then numB n.toNat else []
def textB (s : ByteArray) : List Int := numB s.size ++ bytesOf s
theorem upB_len {n : Int} (h : n < 18446744073709551616) : (upB n).length ≤ 11 := by
  unfold upB
  split
  · exact numB_len (by omega)
  · simp
theorem cup_calls (w0 : World) (g : Nat) (bs : List Int) (n : Int) (hn : n ≤ 9223372036854775807) (hl : bs.length ≤ 100000000000000) (w : World) (h : CS w0 g bs w) :
    Calls Tryz.prog 27 #[.pointer (some ⟨g, 0, none⟩), .int .i64 n] w fun e w' => (∃ v, e = .returned v) ∧ CS w0 g (bs ++ upB n) w' ∧ PF g w w' := by
  have HS := Aside0.mk h
  by_cases h0 : 0 ≤ n
  · obtain ⟨m, rfl⟩ := Int.eq_ofNat_of_zero_le h0
    have hw : IntKind.u64.wrap (m : Int) = (m : Int) := wraps_u64 _ (by omega) (by omega)
    have hc := fun W (hW : CS w0 g bs W) => cnum_calls w0 g bs m (by omega) hl W hW
    have e1 : upB (m : Int) = numB m := by unfold upB; rw [if_pos h0, Int.toNat_natCast]
    rw [e1]
    clear h hl
    go_enter Tryz.func27, Tryz.ntmps27
    go_wp2_with (go_at_call 54; refine (hc _ HS.out).mono ?_; rintro e w1 ⟨rfl, hr, hp⟩; have HR := Aside0.mk hr; have HP := Aside0.mk hp; clear hr hp)
    exact bodyPost_ret (v := .bool true) (by simp [results, Tryz.results27, go_sem]) rfl ⟨⟨_, rfl⟩, HR.out, HP.out⟩
  · have e1 : upB n = [] := by unfold upB; rw [if_neg h0]
    rw [e1, List.append_nil]
    clear h hl
    go_enter Tryz.func27, Tryz.ntmps27
    go_wp2_with fail
    exact bodyPost_ret (v := .bool false) (by simp [results, Tryz.results27, go_sem]) rfl ⟨⟨_, rfl⟩, HS.out, PF.refl HS.out.lt⟩
theorem append_string_row {P : Program} (w : World) (base : Nat) (t u ty e : TypeId) (i : TypeInfo) (ht : P.underlying t = some (.slice e)) (hu : P.underlying u = some .string) (hi : P.info? e = some i) (hz : i.zero = some (.int .u8 0)) (hsize : i.size = 1) (hby : i.bytes = 1)
    (v : Value) (n : Nat) (xs : List Value) (hown : w.ownsRow base e 1 v n xs) (s : ByteArray) (h63 : n + s.size ≤ maxLen) (hbytes : n + s.size ≤ 140737488355328) (v' : Value) (w' : World) (hrun : (Builtin.append_ #[t, u] ty #[v, .string s]).run P w = .ok v' w') :
    v'.ownBlock = v.ownBlock ∨ ∃ b, v'.ownBlock = some b ∧ w.heap.size ≤ b := by
  have hsmall : n + s.size ≤ 9223372036854775807 := by simp only [maxLen] at h63; omega
  rcases hown.2 with ⟨rfl, rfl⟩ | ⟨g, cap, cur, rfl, hbg, hg, hnc, hcm, hcs, htake⟩
  · by_cases hm : s.size = 0
    · have hf := Lib.run_firstCells_string (P := P) w 1 s
      rw [hm] at hf
      simp [Builtin.append_, run_underlying ht, run_underlying hu, sizeOf, typeInfo, hi, hsize, Builtin.lenOf, hm, hf] at hrun
      obtain ⟨rfl, rfl⟩ := hrun
      exact .inl rfl
    · have hr := run_append_nil_string (P := P) w t u ty e i (.int .u8 0) ht hu hi hz s (by omega) (by omega) (by rw [hby]; omega)
      rw [hrun] at hr
      injection hr with hr _
      subst hr
      exact .inr ⟨w.heap.size, rfl, Nat.le_refl _⟩
  · by_cases hroom : n + s.size ≤ cap
    · have hcs' : cur.size = cap := by simpa using hcs
      have hr := Lib.run_append_room_string (P := P) w t u ty e i ht hu hi hsize g n cap cur hg s hroom (by omega)
      rw [hrun] at hr
      injection hr with hr _
      subst hr
      exact .inl rfl
    · have hxl : xs.length = n := by simpa using hown.1
      have holds : ∀ j u, xs[j]? = some u → w.cell? ((⟨g, 0, none⟩ : Addr).add j) = some u := hown.cells (g := g) rfl
      have hr := Lib.run_append_grow_string (P := P) w t u ty e i (.int .u8 0) ht hu hi hz ⟨g, 0, none⟩ n cap xs (by rw [hsize]; simpa using hxl) holds s (by omega) (by omega) (by rw [hby]; exact growslice_fits (by omega) (by omega))
      rw [hrun] at hr
      injection hr with hr _
      subst hr
      exact .inr ⟨w.heap.size, rfl, Nat.le_refl _⟩
theorem wpList_append_string_at {P : Program} (w : World) {ops : Array Oper} {rest : List Oper} {o : Oper} {a : Act} {Q : Exit → Act → World → Prop} (hgd : o.guard = none) (sl x : Operand) (t u : TypeId)
    (ho : o.op = .call { callee := .builtin .append, args := #[sl, x], argTypes := #[t, u] })
    (base : Nat) (e : TypeId) (i : TypeInfo) (ht : P.underlying t = some (.slice e)) (hu : P.underlying u = some .string) (hi : P.info? e = some i) (hz : i.zero = some (.int .u8 0))
    (hsize : i.size = 1) (hby : i.bytes = 1)
    (v : Value) (n : Nat) (xs : List Value) (hs : a.eval sl = v) (hown : w.ownsRow base e 1 v n xs) (s : ByteArray) (hx : a.eval x = .string s)
    (h63 : n + s.size ≤ maxLen) (hbytes : n + s.size ≤ 140737488355328) (hbase : base ≤ w.heap.size)
    (h : ∀ v' w', w'.ownsRow base e 1 v' (n + s.size) (xs ++ Lib.strCells s) → w.grownBy w' v.ownBlock → (v'.ownBlock = v.ownBlock ∨ ∃ b, v'.ownBlock = some b ∧ w.heap.size ≤ b) → wpList P ops Q rest (a.put o.dst v') w') : wpList P ops Q (o :: rest) a w := by
  refine wpList_plain hgd fun K hK => ?_
  obtain ⟨v', w', hr, h2, h3, _⟩ := Lib.run_append_own_string (P := P) w base t u o.type e i ht hu hi hz hsize hby v n xs hown s h63 hbytes hbase
  have hat := append_string_row (P := P) w base t u o.type e i ht hu hi hz hsize hby v n xs hown s h63 hbytes v' w' hr
  unfold Oper.wp execOp
  simp only [ho, resolve, invoke, builtin, Sem.run_bind, Sem.run_pure, Result.andThen_ok, List.map_toArray, List.map_cons, List.map_nil, hs, hx, hr]
  exact hK _ _ (h v' w' h2 h3 hat)
/-- What an append to the coil's row leaves, once it is stored. -/
theorem CS.fin {w0 W w1 : World} {g : Nat} {bs xs : List Int} {cv v1 : Value} (h : CS w0 g bs W) (hv : W.heap[g]? = some (.cells #[cv] 70 (0, 0))) (hc : Kd.R (Kd.int .u8) 5 W w0.heap.size (fun _ => True) cv bs) (hg : W.grownBy w1 cv.ownBlock) (hr : Kd.R (Kd.int .u8) 5 w1 w0.heap.size (fun _ => True) v1 (bs ++ xs)) (hat : v1.ownBlock = cv.ownBlock ∨ ∃ b, v1.ownBlock = some b ∧ W.heap.size ≤ b) :
    w1.cell? ⟨g, 0, none⟩ = some cv ∧ w1.frozen? ⟨g, 0, none⟩ = false ∧ CS w0 g (bs ++ xs) (w1.setCell ⟨g, 0, none⟩ v1) ∧ PF g W (w1.setCell ⟨g, 0, none⟩ v1) := by
  have hv1 := blk_grown hv hg (Kd.R_ne hc hv (by decide))
  have hown := Kd.own_of_R hc
  exact ⟨blk_cell hv1 0, blk_frozen hv1 0, ⟨(h.1.grown hg h.1.size (fun k hk => own_base hown k hk)).setCell (p := ⟨g, 0, none⟩) h.2.1 _, h.2.1, v1, by simpa using blk_set hv1 0 v1, Kd.R_set hr hv1 (by decide) 0 _⟩, PF.put hv hv1 hg hat⟩
theorem CS.append_str {P : Program} {ops : Array Oper} {rest : List Oper} {o : Oper} {a : Act} {Q : Exit → Act → World → Prop} {w0 W : World} {g : Nat} {bs : List Int} {v : Value} (s : ByteArray) (hP : P = Tryz.prog) (hgd : o.guard = none) (sl x : Operand)
    (ho : o.op = .call { callee := .builtin .append, args := #[sl, x], argTypes := #[22, 9] }) (hs : a.eval sl = v) (hx : a.eval x = .string s) (hS : CS w0 g bs W) (hv : W.heap[g]? = some (.cells #[v] 70 (0, 0))) (hl : bs.length + s.size ≤ 140737488355328)
    (h : ∀ A1 n1 c1 w1, w1.cell? ⟨g, 0, none⟩ = some v → w1.frozen? ⟨g, 0, none⟩ = false → (CS w0 g (bs ++ bytesOf s) (w1.setCell ⟨g, 0, none⟩ (.slice A1 n1 c1)) ∧ PF g W (w1.setCell ⟨g, 0, none⟩ (.slice A1 n1 c1))) → wpList P ops Q rest (a.put o.dst (.slice A1 n1 c1)) w1) :
    wpList P ops Q (o :: rest) a W := by
  subst hP
  obtain ⟨v0, hv0, hc⟩ := hS.2.2
  obtain rfl : v0 = v := by rw [hv0] at hv; injection hv with hv; injection hv with hv; simpa using hv
  obtain ⟨i0, hi, hz⟩ := Option.map_eq_some_iff.1 info5
  simp only [Prod.mk.injEq] at hz
  obtain ⟨hz0, hz1, hz2⟩ := hz
  have hown := Kd.own_of_R hc
  refine wpList_append_string_at W hgd sl x 22 9 ho w0.heap.size 5 i0 Tryz.underlying22 Tryz.underlying9 hi hz0 hz1 hz2 v0 bs.length (encs (Value.int .u8) bs) hs hown s hx (by unfold maxLen; omega) hl hS.1.size ?_
  intro v' w' hown' hg hat
  have e1 : encs (Value.int .u8) (bs ++ bytesOf s) = encs (Value.int .u8) bs ++ Lib.strCells s := by simp [encs, bytesOf, Lib.strCells]
  have hR : Kd.R (Kd.int .u8) 5 w' w0.heap.size (fun _ => True) v' (bs ++ bytesOf s) := Kd.R_of_own (by rw [e1, List.length_append, bytesOf_length]; exact hown') (fun _ _ => trivial)
  obtain ⟨A1, n1, c1, e⟩ : ∃ A n c, v' = .slice A n c := by obtain ⟨A, c, e⟩ := Kd.R_slice hR; exact ⟨A, _, c, e⟩
  subst e
  have hf := CS.fin hS hv0 hc hg hR hat
  exact h A1 n1 c1 w' hf.1 hf.2.1 hf.2.2
theorem ctext_calls (w0 : World) (g : Nat) (bs : List Int) (s : ByteArray) (hl : bs.length + s.size ≤ 100000000000000) (w : World) (h : CS w0 g bs w) :
    Calls Tryz.prog 44 #[.pointer (some ⟨g, 0, none⟩), .string s] w fun e w' => e = .returned (.tuple #[]) ∧ CS w0 g (bs ++ textB s) w' ∧ PF g w w' := by
  have hc := cup_calls w0 g bs (s.size : Int) (by omega) (by omega) w h
  have e1 : upB (s.size : Int) = numB s.size := by unfold upB; rw [if_pos (by omega), Int.toNat_natCast]
  rw [e1] at hc
  have HL := Aside0.mk (show (bs ++ numB s.size).length + s.size ≤ 140737488355328 by have := numB_len (n := s.size) (by omega); rw [List.length_append]; omega)
  clear h hl e1
  go_enter Tryz.func44, Tryz.ntmps44
  go_wp2_with (first
    | (go_at_call 27; refine hc.mono ?_; rintro e w1 ⟨⟨vb, rfl⟩, hr, hp⟩; obtain ⟨cv, hcv, _⟩ := hr.2.2; have d0 := blk_cell hcv 0; have HCV := Aside0.mk hcv; have HR := Aside0.mk hr; have HP := Aside0.mk hp; clear hr hp hcv hc)
    | (at_builtin; refine CS.append_str (v := cv) s rfl rfl (.tmp 12) (.tmp 13) rfl rfl rfl HR.out HCV.out HL.out ?_; intro A1 n1 c1 w2 g0 g1 hfin; have FIN := Aside0.mk hfin; clear hfin d0))
  go_end0
  exact ⟨rfl, by unfold textB; rw [← List.append_assoc]; exact FIN.out.1, HP.out.trans FIN.out.2⟩
structure BytesOut (bs : List Int) (w : World) (e : Ending) (w' : World) : Prop where
  out : ∃ A' n' c', e = .returned (.slice A' n' c') ∧ n' = bs.length ∧ n' ≤ c' ∧ Kd.C (Kd.int .u8) w' A' bs.length bs
  hb : Below w.heap.size w w'
set_option maxRecDepth 100000 in
set_option maxHeartbeats 8000000 in
theorem clone_calls (A : Option Addr) (c : Nat) (xs : List Int) (w : World) (hC : Kd.C (Kd.int .u8) w A xs.length xs) (hA : A = none → xs = []) (hl : xs.length ≤ 140737488355328) :
    Calls Tryz.prog 21 #[.slice A xs.length c] w (BytesOut xs w) := by
  have he := fun (a : Option Addr) (l c : Nat) W => Go.run_eql_slice_nil (P := Tryz.prog) W 22 5 a l c Tryz.underlying22
  rcases A with _ | ad
  · obtain rfl := hA rfl
    simp only [List.length_nil]
    go_enter Tryz.func21, Tryz.ntmps21
    go_wp2_with fail
    exact bodyPost_ret (v := .slice none 0 0) (by simp [results, Tryz.results21, go_sem]) rfl ⟨⟨none, 0, 0, rfl, rfl, Nat.le_refl _, Kd.C_nil _ _⟩, Below.refl _ _⟩
  · obtain ⟨n, hn⟩ : ∃ n, xs.length = n := ⟨_, rfl⟩
    have HC := Aside0.mk (show ReadsRow (fun x cs => cs = [.int .u8 x]) (Kd.int .u8).sz (w.alloc (.cells #[] 5)) (some ad) n xs by rw [← hn]; exact Kd.C_below hC ((Below.refl _ w).alloc (Nat.le_refl _) _))
    have HL := Aside0.mk (show (([] : List Int).length + n) * 1 ≤ 140737488355328 by simp; omega)
    have HN := Aside0.mk hn
    have HR := Aside0.mk (show Kd.R (Kd.int .u8) 5 (w.alloc (.cells #[] 5)) w.heap.size (fun _ => True) (.slice (some ⟨w.heap.size, 0, none⟩) 0 0) [] from Kd.R_of_own (by simpa [encs, nums] using own_lit w w.heap.size 5 .u8 [] (Nat.le_refl _) (by simp)) (fun _ _ => trivial))
    have HB := Aside0.mk (show Below w.heap.size w (w.alloc (.cells #[] 5)) from (Below.refl _ w).alloc (Nat.le_refl _) _)
    have HS := Aside0.mk (show w.heap.size ≤ (w.alloc (.cells #[] 5)).heap.size by simp)
    rw [hn]
    clear hC hl hA hn
    go_enter Tryz.func21, Tryz.ntmps21
    go_wp2_with (at_builtin; refine Kd.R_append_rows (Rr := fun x cs => cs = [.int .u8 x]) (Kd.int .u8) (w0 := w) w.heap.size rfl (.tmp 5) (.tmp 6) 22 5 (.int .u8 0) 1 rfl Tryz.underlying22 info5 rfl (by decide) (by omega) (.slice (some ⟨w.heap.size, 0, none⟩) 0 0) [] xs (some ad) n c (fun _ => True) (fun _ => False) rfl rfl HR.out HC.out (fun _ _ h => h) (fun _ hk => hk.elim) (fun _ _ => trivial) HB.out HS.out HL.out ?_; intro v1 w1 hr hb hg hat; obtain ⟨A1, n1, c1, e1, hn1, hc1, hC1⟩ : ∃ A n c, v1 = .slice A n c ∧ n = xs.length ∧ n ≤ c ∧ Kd.C (Kd.int .u8) w1 A xs.length xs := (by obtain ⟨A, c, e, h1, h2⟩ := Kd.R_reads hr; simp only [List.nil_append] at e h1 h2; exact ⟨A, _, c, e, rfl, h1, h2⟩); subst e1; have HN1 := Aside0.mk hn1; have HC1 := Aside0.mk hc1; have HCC := Aside0.mk hC1; have HB1 := Aside0.mk hb; clear hr hb hg hat hn1 hc1 hC1)
    exact bodyPost_ret (v := .slice A1 n1 c1) (by simp [results, Tryz.results21, go_sem]) rfl ⟨⟨A1, n1, c1, rfl, HN1.out, HC1.out, HCC.out⟩, HB1.out⟩
theorem cbytes_calls (w0 : World) (g : Nat) (bs : List Int) (hl : bs.length ≤ 140737488355328) (w : World) (h : CS w0 g bs w) :
    Calls Tryz.prog 28 #[.pointer (some ⟨g, 0, none⟩)] w (BytesOut bs w) := by
  obtain ⟨v, hv, hr⟩ := h.2.2
  obtain ⟨A, c, e, hc, hC⟩ := Kd.R_reads hr
  have hA : A = none → bs = [] := by
    intro hA
    subst hA
    cases bs with
    | nil => rfl
    | cons b r => obtain ⟨ad, h2, _⟩ := hC.2.2 (by simp); cases h2
  have hcl := clone_calls A c bs w hC hA hl
  obtain ⟨n, hn⟩ : ∃ n, bs.length = n := ⟨_, rfl⟩
  subst e
  have d0 := blk_cell hv 0
  rw [hn] at d0 hcl
  clear hv hr hC hc hn h hl
  go_enter Tryz.func28, Tryz.ntmps28
  go_wp2_with (go_at_call 21; refine (show Calls _ _ _ _ _ from hcl).mono ?_; rintro e w1 ⟨⟨A', n', c', rfl, hn, hcc, hCC⟩, hb⟩; have HO := Aside0.mk (And.intro hn (And.intro hcc hCC)); have HB := Aside0.mk hb; clear hn hcc hCC hb hcl)
  exact bodyPost_ret (v := .slice A' n' c') (by simp [results, Tryz.results28, go_sem]) rfl ⟨⟨A', n', c', rfl, HO.out.1, HO.out.2.1, HO.out.2.2⟩, HB.out⟩
end Go.Proofs.YtdooajmgfoobfaaGreatDoor.H
namespace Go.Proofs.YtdooajmgfoobfaaGreatDoor.H
open Go.RowKit Go.Shelf Go.Proofs.YtdooajmgfoobfaaGreatDoor.PA Go.Proofs.YtdooajmgfoobfaaGreatDoorW.PrintWords Go.Proofs.YtdooajmgfoobfaaGreatDoorW.PrintLast Go.Proofs.YtdooajmgfoobfaaGreatDoorW.PrintMore
set_option linter.unusedVariables false
set_option linter.unusedSimpArgs false
structure OwnOut (bs : List Int) (w : World) (e : Ending) (w' : World) : Prop where
  out : ∃ v, e = .returned v ∧ Kd.R (Kd.int .u8) 5 w' w.heap.size (fun _ => True) v bs
  hb : Below w.heap.size w w'
set_option maxRecDepth 100000 in
set_option maxHeartbeats 8000000 in
theorem cloneO_calls (A : Option Addr) (c : Nat) (xs : List Int) (w : World) (hC : Kd.C (Kd.int .u8) w A xs.length xs) (hA : A = none → xs = []) (hl : xs.length ≤ 140737488355328) :
    Calls Tryz.prog 21 #[.slice A xs.length c] w (OwnOut xs w) := by
  have he := fun (a : Option Addr) (l c : Nat) W => Go.run_eql_slice_nil (P := Tryz.prog) W 22 5 a l c Tryz.underlying22
  rcases A with _ | ad
  · obtain rfl := hA rfl
    simp only [List.length_nil]
    go_enter Tryz.func21, Tryz.ntmps21
    go_wp2_with fail
    exact bodyPost_ret (v := .slice none 0 0) (by simp [results, Tryz.results21, go_sem]) rfl ⟨⟨_, rfl, Kd.R_nil _ _ _ _ _⟩, Below.refl _ _⟩
  · obtain ⟨n, hn⟩ : ∃ n, xs.length = n := ⟨_, rfl⟩
    have HC := Aside0.mk (show ReadsRow (fun x cs => cs = [.int .u8 x]) (Kd.int .u8).sz (w.alloc (.cells #[] 5)) (some ad) n xs by rw [← hn]; exact Kd.C_below hC ((Below.refl _ w).alloc (Nat.le_refl _) _))
    have HL := Aside0.mk (show (([] : List Int).length + n) * 1 ≤ 140737488355328 by simp; omega)
    have HN := Aside0.mk hn
    have HR := Aside0.mk (show Kd.R (Kd.int .u8) 5 (w.alloc (.cells #[] 5)) w.heap.size (fun _ => True) (.slice (some ⟨w.heap.size, 0, none⟩) 0 0) [] from Kd.R_of_own (by simpa [encs, nums] using own_lit w w.heap.size 5 .u8 [] (Nat.le_refl _) (by simp)) (fun _ _ => trivial))
    have HB := Aside0.mk (show Below w.heap.size w (w.alloc (.cells #[] 5)) from (Below.refl _ w).alloc (Nat.le_refl _) _)
    have HS := Aside0.mk (show w.heap.size ≤ (w.alloc (.cells #[] 5)).heap.size by simp)
    rw [hn]
    clear hC hl hA hn
    go_enter Tryz.func21, Tryz.ntmps21
    go_wp2_with (at_builtin; refine Kd.R_append_rows (Rr := fun x cs => cs = [.int .u8 x]) (Kd.int .u8) (w0 := w) w.heap.size rfl (.tmp 5) (.tmp 6) 22 5 (.int .u8 0) 1 rfl Tryz.underlying22 info5 rfl (by decide) (by omega) (.slice (some ⟨w.heap.size, 0, none⟩) 0 0) [] xs (some ad) n c (fun _ => True) (fun _ => False) rfl rfl HR.out HC.out (fun _ _ h => h) (fun _ hk => hk.elim) (fun _ _ => trivial) HB.out HS.out HL.out ?_; intro v1 w1 hr hb hg hat; have HR1 := Aside0.mk hr; have HB1 := Aside0.mk hb; clear hr hb hg hat)
    exact bodyPost_ret (v := v1) (by simp [results, Tryz.results21, go_sem]) rfl ⟨⟨_, rfl, by simpa using HR1.out⟩, HB1.out⟩
/-- A file: its bytes, how many are safe. -/
structure Fl where
  b : List Int
  s : Int
abbrev Fls := List (ByteArray × Fl)
/-- A disk. -/
structure Dk where
  lim : Int
  fused : Bool
  steps : Int
  L : Fls
def usedL : Fls → Int
  | [] => 0
  | x :: r => x.2.b.length + usedL r
structure FlOk (f : Fl) : Prop where
  u8 : ∀ x ∈ f.b, 0 ≤ x ∧ x ≤ 255
  s0 : 0 ≤ f.s
  s1 : f.s ≤ f.b.length
structure DkOk (D : Dk) : Prop where
  lim0 : 0 ≤ D.lim
  lim1 : D.lim ≤ 1048576
  used : usedL D.L ≤ D.lim
  few : D.L.length ≤ 16
  rise : Rise D.L
  st0 : 0 ≤ D.steps
  st1 : D.steps ≤ 1000000
  ok : ∀ x ∈ D.L, FlOk x.2
theorem used_nonneg : ∀ (L : Fls), 0 ≤ usedL L
  | [] => by simp [usedL]
  | x :: r => by have := used_nonneg r; simp only [usedL]; omega
theorem used_mem {x : ByteArray × Fl} : ∀ {L : Fls}, x ∈ L → (x.2.b.length : Int) ≤ usedL L
  | y :: r, h => by
    have := used_nonneg r
    simp only [usedL]
    rcases List.mem_cons.1 h with rfl | h
    · omega
    · have := used_mem h; omega
def lenAt (k : ByteArray) (L : Fls) : Int := match lk k L with | some f => f.b.length | none => 0
theorem used_ins {k : ByteArray} {f : Fl} : ∀ {L : Fls}, Rise L → usedL (ins k f L) = usedL L - lenAt k L + f.b.length
  | [], _ => by simp [ins, usedL, lenAt, lk]
  | a :: L, h => by
    have h2 : Rise L := (List.pairwise_cons.1 h).2
    have h1 := (List.pairwise_cons.1 h).1
    unfold ins
    split
    · next e =>
      have : lk k (a :: L) = none := lk_none _ (fun x hx => by
        rcases List.mem_cons.1 hx with rfl | hx
        · exact (cmpS_ne e).symm
        · exact (cmpS_ne (cmpS_ok.trans _ _ _ e (h1 x hx))).symm)
      simp only [usedL, lenAt, this]; omega
    · split
      · next e => simp only [usedL, lenAt, lk, if_pos e]; omega
      · next e =>
        have := used_ins (k := k) (f := f) h2
        simp only [usedL, lenAt, lk, if_neg e] at this ⊢
        omega
theorem used_del {k : ByteArray} : ∀ {L : Fls}, usedL (del k L) = usedL L - lenAt k L
  | [] => by simp [del, usedL, lenAt, lk]
  | a :: L => by
    unfold del
    split
    · next e => simp only [usedL, lenAt, lk, if_pos e]; omega
    · next e =>
      have := used_del (k := k) (L := L)
      simp only [usedL, lenAt, lk, if_neg e] at this ⊢
      omega
theorem rise_ins {α : Type} {k : ByteArray} {v : α} : ∀ {L : List (ByteArray × α)}, Rise L → Rise (ins k v L)
  | [], _ => by simp [ins, Tr.Rise]
  | a :: L, h => by
    have h2 : Rise L := (List.pairwise_cons.1 h).2
    have h1 := (List.pairwise_cons.1 h).1
    unfold ins
    split
    · next e => exact List.pairwise_cons.2 ⟨fun x hx => by
        rcases List.mem_cons.1 hx with rfl | hx
        · exact e
        · exact cmpS_ok.trans _ _ _ e (h1 x hx), h⟩
    · next e1 =>
      split
      · next e => exact List.pairwise_cons.2 ⟨fun x hx => by rw [e]; exact h1 x hx, h2⟩
      · next e =>
        refine List.pairwise_cons.2 ⟨fun x hx => ?_, rise_ins h2⟩
        rcases ins_mem hx with rfl | hx
        · have h3 : cmpS k a.1 ≠ 0 := fun h => e ((cmpS_ok.eq _ _).1 h)
          exact (cmpS_ok.anti a.1 k).2 (by omega)
        · exact h1 x hx
theorem rise_del {α : Type} {k : ByteArray} : ∀ {L : List (ByteArray × α)}, Rise L → Rise (del k L)
  | [], h => h
  | a :: L, h => by
    have h2 : Rise L := (List.pairwise_cons.1 h).2
    have h1 := (List.pairwise_cons.1 h).1
    unfold del
    split
    · exact h2
    · exact List.pairwise_cons.2 ⟨fun x hx => h1 x (del_mem hx), rise_del h2⟩
/-! what the disk's methods do -/
def Dk.step (D : Dk) : Option Dk := if D.fused = true then (if D.steps = 0 then none else some { D with steps := D.steps - 1 }) else some D
def Dk.put (D : Dk) (k : ByteArray) (f : Fl) : Dk := { D with L := ins k f D.L }
def Dk.del (D : Dk) (k : ByteArray) : Dk := { D with L := H.del k D.L }
def Fl.orNone : Option Fl → Fl
  | some f => f
  | none => ⟨[], 0⟩
def Dk.append (D : Dk) (k : ByteArray) (b : List Int) : Dk × Int :=
  if (b.length : Int) > D.lim - usedL D.L ∨ (lk k D.L = none ∧ 16 ≤ D.L.length) then (D, 3)
  else match D.step with
    | none => (D, 23)
    | some D1 => (D1.put k ⟨(Fl.orNone (lk k D.L)).b ++ b, (Fl.orNone (lk k D.L)).s⟩, 0)
def Dk.sync (D : Dk) (k : ByteArray) : Dk × Int := match lk k D.L with
  | none => (D, 5)
  | some f => match D.step with
    | none => (D, 23)
    | some D1 => (D1.put k ⟨f.b, f.b.length⟩, 0)
def Dk.cut (D : Dk) (k : ByteArray) (n : Int) : Dk × Int := match lk k D.L with
  | none => (D, 5)
  | some f => if n < 0 ∨ n > f.b.length then (D, 1) else match D.step with
    | none => (D, 23)
    | some D1 => (D1.put k ⟨f.b.take n.toNat, min f.s n⟩, 0)
def Dk.rename (D : Dk) (a b : ByteArray) : Dk × Int := match lk a D.L with
  | none => (D, 5)
  | some f => match D.step with
    | none => (D, 23)
    | some D1 => ((D1.del a).put b f, 0)
def Dk.drop (D : Dk) (k : ByteArray) : Dk × Int := match lk k D.L with
  | none => (D, 5)
  | some _ => match D.step with
    | none => (D, 23)
    | some D1 => (D1.del k, 0)
theorem step_ok {D D1 : Dk} (h : DkOk D) (e : D.step = some D1) : DkOk D1 ∧ D1.L = D.L ∧ D1.lim = D.lim := by
  unfold Dk.step at e
  split at e
  · split at e
    · cases e
    · cases e
      exact ⟨{ h with st0 := by have := h.st0; show 0 ≤ D.steps - 1; omega, st1 := by have := h.st1; show D.steps - 1 ≤ _; omega }, rfl, rfl⟩
  · cases e; exact ⟨h, rfl, rfl⟩
theorem lk_ok {D : Dk} (h : DkOk D) {k : ByteArray} {f : Fl} (e : lk k D.L = some f) : FlOk f := h.ok _ ((lk_mem _ h.rise).1 e)
theorem put_ok {D : Dk} (h : DkOk D) {k : ByteArray} {f : Fl} (hf : FlOk f) (hu : usedL D.L - lenAt k D.L + f.b.length ≤ D.lim) (hn : (lk k D.L).isSome = true ∨ D.L.length < 16) : DkOk (D.put k f) :=
  { h with
    used := by show usedL (ins k f D.L) ≤ D.lim; rw [used_ins h.rise]; exact hu
    few := by show (ins k f D.L).length ≤ 16; rw [ins_len h.rise]; have := h.few; rcases hn with hn | hn; rw [if_pos hn]; exact this; split <;> omega
    rise := rise_ins h.rise
    ok := fun x hx => by
      rcases ins_mem hx with rfl | hx
      · exact hf
      · exact h.ok x hx }
theorem del_ok {D : Dk} (h : DkOk D) (k : ByteArray) : DkOk (D.del k) :=
  { h with
    used := by
      show usedL (H.del k D.L) ≤ D.lim
      rw [used_del]
      have := h.used
      have : 0 ≤ lenAt k D.L := by unfold lenAt; split <;> omega
      omega
    few := by have := del_len (k := k) h.rise; have := h.few; show (H.del k D.L).length ≤ 16; omega
    rise := rise_del h.rise
    ok := fun x hx => h.ok x (del_mem hx) }
end Go.Proofs.YtdooajmgfoobfaaGreatDoor.H
namespace Go.Proofs.YtdooajmgfoobfaaGreatDoor.H
open Go.RowKit Go.Shelf Go.Proofs.YtdooajmgfoobfaaGreatDoor.PA Go.Proofs.YtdooajmgfoobfaaGreatDoorW.PrintWords Go.Proofs.YtdooajmgfoobfaaGreatDoorW.PrintLast Go.Proofs.YtdooajmgfoobfaaGreatDoorW.PrintMore
set_option linter.unusedVariables false
set_option linter.unusedSimpArgs false
theorem cell_congr {w w' : World} {ad : Addr} (h : w'.heap[ad.block]? = w.heap[ad.block]?) : w'.cell? ad = w.cell? ad := by
  unfold World.cell?
  rw [h]
theorem add_block (ad : Addr) (j : Nat) : (ad.add j).block = ad.block := by unfold Addr.add; split <;> rfl
theorem C_keepA {w w' : World} {A : Option Addr} {n : Nat} {xs : List Int} (h : Kd.C (Kd.int .u8) w A n xs) (hk : ∀ ad, A = some ad → w'.heap[ad.block]? = w.heap[ad.block]?) : Kd.C (Kd.int .u8) w' A n xs := by
  have h := reads_of_C h
  refine C_of_reads ⟨h.1, h.2.1, fun hn => ?_⟩
  obtain ⟨ad, e, hc⟩ := h.2.2 hn
  exact ⟨ad, e, fun j hj => (cell_congr (by rw [add_block]; exact hk ad e)).trans (hc j hj)⟩
/-- A file's value leads to its bytes. -/
structure FvAt (w : World) (v : FV) (f : Fl) : Prop where
  n : v.n = f.b.length
  s : v.s = f.s
  c : f.b.length ≤ v.c
  rd : Kd.C (Kd.int .u8) w v.A f.b.length f.b
  nil : v.A = none → f.b = []
  blk : ∀ ad, v.A = some ad → ∃ cs, w.heap[ad.block]? = some (.cells cs 5 (0, 0))
theorem FvAt.keep {w w' : World} {v : FV} {f : Fl} (h : FvAt w v f) (hk : ∀ (i : Nat) (cs : Array Value), w.heap[i]? = some (.cells cs 5 (0, 0)) → w'.heap[i]? = w.heap[i]?) : FvAt w' v f :=
  { h with
    rd := C_keepA h.rd (fun ad e => by obtain ⟨cs, hc⟩ := h.blk ad e; exact hk _ cs hc)
    blk := fun ad e => by obtain ⟨cs, hc⟩ := h.blk ad e; exact ⟨cs, (hk _ cs hc).trans hc⟩ }
/-- Blocks that may change hold no bytes. -/
def Foot (w : World) (F : Nat → Prop) : Prop := ∀ i, F i → ∃ cs t, w.heap[i]? = some (.cells cs t (0, 0)) ∧ t ≠ 5
theorem FvAt.mut {w w' : World} {v : FV} {f : Fl} {F : Nat → Prop} (h : FvAt w v f) (hm : Mut F w w') (hF : ∀ i, F i → i < w.heap.size → ∃ cs t, w.heap[i]? = some (.cells cs t (0, 0)) ∧ t ≠ 5) : FvAt w' v f :=
  h.keep (fun i cs hc => hm.block i (blk_lt hc) (fun e => by
    obtain ⟨cs', t, h2, ht⟩ := hF i e (blk_lt hc)
    rw [hc] at h2
    cases h2
    exact ht rfl))
theorem FvAt.of_own {w : World} {base : Nat} {v : Value} {f : Fl} (h : Kd.R (Kd.int .u8) 5 w base (fun _ => True) v f.b) : ∃ u : FV, v = .slice u.A u.n u.c ∧ u.s = f.s ∧ FvAt w u f := by
  obtain ⟨A, c, e, hc, hC⟩ := Kd.R_reads h
  obtain ⟨inner, ho⟩ := Kd.R_own h
  refine ⟨⟨A, f.b.length, c, f.s⟩, e, rfl, rfl, rfl, hc, hC, fun hA => ?_, fun ad hA => ?_⟩
  · simp only at hA
    subst hA
    cases hb : f.b with
    | nil => rfl
    | cons b r => rw [hb] at hC; obtain ⟨ad, h2, _⟩ := hC.2.2 (by simp); cases h2
  · simp only at hA
    subst hA
    refine own_typed ho ad.block ?_
    rw [e]
    rcases ho.2 with ⟨h1, _⟩ | ⟨g, cap, cur, h1, _⟩
    · rw [e] at h1; cases h1
    · rw [e] at h1
      cases h1
      rfl
def sumpC (lim : Int) (rk : Nat) (fused : Bool) (steps : Int) : Array Value := #[.int .i64 lim, .pointer (some ⟨rk, 0, none⟩), .bool fused, .int .i64 steps]
/-- A disk in memory: the blocks that may change are F. -/
structure SumpAt (w : World) (s : Nat) (F : Nat → Prop) (D : Dk) : Prop where
  ex : ∃ (rk : Nat) (T : Tr FV), w.heap[s]? = some (.cells (sumpC D.lim rk D.fused D.steps) 54 (0, 0)) ∧ RackAt w rk T ∧ Both (FvAt w) T.toL D.L ∧ ∀ i, F i ↔ i = s ∨ RF rk T i
  ok : DkOk D
theorem RF_typed {w : World} {rk : Nat} {T : Tr FV} (h : RackAt w rk T) : ∀ i, RF rk T i → ∃ cs t, w.heap[i]? = some (.cells cs t (0, 0)) ∧ (t = 79 ∨ t = 121) := by
  intro i hi
  rcases hi with rfl | hi
  · exact ⟨_, _, h.blk, .inl rfl⟩
  · have key : ∀ t : Tr FV, At w t → i ∈ t.ids → ∃ cs, w.heap[i]? = some (.cells cs 121 (0, 0)) := by
      intro t
      induction t with
      | nil => intro _ h; simp [Tr.ids] at h
      | node b k v l r hh m ihl ihr =>
        intro ht hm
        simp only [Tr.ids, List.mem_append, List.mem_cons] at hm
        rcases hm with hm | rfl | hm
        · exact ihl ht.left hm
        · exact ⟨_, ht.node⟩
        · exact ihr ht.right hm
    obtain ⟨cs, hc⟩ := key T h.tree hi
    exact ⟨cs, _, hc, .inr rfl⟩
theorem SumpAt.foot {w : World} {s : Nat} {F : Nat → Prop} {D : Dk} (h : SumpAt w s F D) : Foot w F := by
  obtain ⟨rk, T, hb, hr, _, hF⟩ := h.ex
  intro i hi
  rcases (hF i).1 hi with rfl | hi
  · exact ⟨_, _, hb, by decide⟩
  · obtain ⟨cs, t, hc, ht⟩ := RF_typed hr i hi
    exact ⟨cs, t, hc, by rcases ht with rfl | rfl <;> decide⟩
theorem SumpAt.lt {w : World} {s : Nat} {F : Nat → Prop} {D : Dk} (h : SumpAt w s F D) : ∀ i, F i → i < w.heap.size := fun i hi => by obtain ⟨cs, t, hc, _⟩ := h.foot i hi; exact blk_lt hc
theorem SumpAt.s_lt {w : World} {s : Nat} {F : Nat → Prop} {D : Dk} (h : SumpAt w s F D) : s < w.heap.size := by obtain ⟨rk, T, hb, _⟩ := h.ex; exact blk_lt hb
theorem SumpAt.keep {w w' : World} {s : Nat} {F : Nat → Prop} {D : Dk} (h : SumpAt w s F D) (hk : ∀ i, F i → w'.heap[i]? = w.heap[i]?) (hb : ∀ (i : Nat) (cs : Array Value), w.heap[i]? = some (.cells cs 5 (0, 0)) → w'.heap[i]? = w.heap[i]?) : SumpAt w' s F D := by
  obtain ⟨rk, T, hs, hr, hv, hF⟩ := h.ex
  exact ⟨⟨rk, T, (hk s ((hF s).2 (.inl rfl))).trans hs, hr.keep (fun i hi _ => hk i ((hF i).2 (.inr hi))), hv.mono (fun _ _ h => h.keep hb), hF⟩, h.ok⟩
theorem SumpAt.below {w w' : World} {s : Nat} {F : Nat → Prop} {D : Dk} (h : SumpAt w s F D) (hb : Below w.heap.size w w') : SumpAt w' s F D :=
  h.keep (fun i hi => hb.block i (h.lt i hi)) (fun i cs hc => hb.block i (blk_lt hc))
theorem SumpAt.mut {w w' : World} {s : Nat} {F G : Nat → Prop} {D : Dk} (h : SumpAt w s F D) (hm : Mut G w w') (hd : ∀ i, F i → ¬ G i) (hG : ∀ i, G i → i < w.heap.size → ∃ cs t, w.heap[i]? = some (.cells cs t (0, 0)) ∧ t ≠ 5) : SumpAt w' s F D :=
  h.keep (fun i hi => hm.block i (h.lt i hi) (hd i hi)) (fun i cs hc => hm.block i (blk_lt hc) (fun e => by
    obtain ⟨cs', t, h2, ht⟩ := hG i e (blk_lt hc)
    rw [hc] at h2
    cases h2
    exact ht rfl))
/-- What an operation on a disk leaves: its answer, the disk. -/
structure SumpOut (s : Nat) (F : Nat → Prop) (r : Dk × Int) (w : World) (e : Ending) (w' : World) : Prop where
  ret : e = .returned (.int .i64 r.2)
  mu : Mut F w w'
  disk : ∃ F', SumpAt w' s F' r.1 ∧ ∀ i, F' i → F i ∨ w.heap.size ≤ i
set_option maxRecDepth 100000 in
theorem Fuse_calls (w : World) (s : Nat) (F : Nat → Prop) (D : Dk) (n : Int) (h : SumpAt w s F D) (h0 : 0 ≤ n) (h1 : n ≤ 1000000) :
    Calls Tryz.prog 15 #[.pointer (some ⟨s, 0, none⟩), .int .i64 n] w (SumpOut s F ({ D with fused := true, steps := n }, 0) w) := by
  have HS := Aside0.mk h
  obtain ⟨rk, T, hb, hr, hv, hF⟩ := h.ex
  have HB := Aside0.mk hb
  have HF := Aside0.mk hF
  have HR := Aside0.mk hr
  have HV := Aside0.mk hv
  have hn0 : decide (n < 0) = false := decide_eq_false (by omega)
  have hn1 : decide (n > 1000000) = false := decide_eq_false (by omega)
  have HN := Aside0.mk (And.intro h0 h1)
  have d2 := blk_cell hb 2
  have d3 := blk_cell hb 3
  have f2 := blk_frozen hb 2
  have f3 := blk_frozen hb 3
  clear h hb hF hr hv h0 h1
  go_enter Tryz.func15, Tryz.ntmps15
  go_wp2
  have hM : Mut (fun i => i = s) w ((w.setCell ⟨s, 2, none⟩ (.bool true)).setCell ⟨s, 3, none⟩ (.int .i64 n)) := ((Mut.refl (fun i => i = s) w).set (.inl rfl) 2 _).set (.inl rfl) 3 _
  have hK : ((w.setCell ⟨s, 2, none⟩ (.bool true)).setCell ⟨s, 3, none⟩ (.int .i64 n)).heap[s]? = some (.cells (sumpC D.lim rk true n) 54 (0, 0)) := blk_put (blk_put HB.out 2 (.bool true) rfl) 3 (.int .i64 n) rfl
  have hne : ∀ i, RF rk T i → i ≠ s := fun i hi e => by
    obtain ⟨cs, t, hc, ht⟩ := RF_typed HR.out i hi
    rw [e, HB.out] at hc
    cases hc
    rcases ht with ht | ht <;> exact absurd ht (by decide)
  have hty : ∀ i, i = s → i < w.heap.size → ∃ cs t, w.heap[i]? = some (.cells cs t (0, 0)) ∧ t ≠ 5 := fun i e _ => by subst e; exact ⟨_, _, HB.out, by decide⟩
  exact bodyPost_ret (v := .int .i64 0) (by simp [results, Tryz.results15, go_sem]) rfl ⟨rfl, hM.mono (fun i e _ => (HF.out i).2 (.inl e)), F, ⟨⟨rk, T, hK, HR.out.mut hM (fun i hi e => hne i hi e), HV.out.mono (fun _ _ h => h.mut hM hty), HF.out⟩, { HS.out.ok with st0 := HN.out.1, st1 := HN.out.2 }⟩, fun _ h => .inl h⟩
/-- One step more: whether it may be done. -/
structure StepOut (s : Nat) (F : Nat → Prop) (D : Dk) (w : World) (e : Ending) (w' : World) : Prop where
  ret : e = .returned (.bool D.step.isSome)
  mu : Mut (fun i => i = s) w w'
  disk : ∀ D', (D' = D ∧ D.step = none) ∨ D.step = some D' → SumpAt w' s F D'
set_option maxRecDepth 100000 in
theorem step_calls (w : World) (s : Nat) (F : Nat → Prop) (D : Dk) (h : SumpAt w s F D) :
    Calls Tryz.prog 50 #[.pointer (some ⟨s, 0, none⟩)] w (StepOut s F D w) := by
  have HS := Aside0.mk h
  obtain ⟨rk, T, hb, hr, hv, hF⟩ := h.ex
  have HB := Aside0.mk hb
  have HF := Aside0.mk hF
  have HR := Aside0.mk hr
  have HV := Aside0.mk hv
  have d2 := blk_cell hb 2
  have d3 := blk_cell hb 3
  have f3 := blk_frozen hb 3
  have hst := h.ok.st1
  have hst0 := h.ok.st0
  clear h hb hF hr hv
  obtain ⟨lim, fused, steps, L⟩ := D
  simp only [sumpC] at d2 d3 hst hst0
  cases fused with
  | false =>
    have HE := Aside0.mk (show Dk.step ⟨lim, false, steps, L⟩ = some ⟨lim, false, steps, L⟩ from rfl)
    go_enter Tryz.func50, Tryz.ntmps50
    go_wp2
    exact bodyPost_ret (v := .bool true) (by simp [results, Tryz.results50, go_sem]) rfl ⟨by rw [HE.out]; rfl, Mut.refl _ _, fun D' e => by
      rw [HE.out] at e
      rcases e with ⟨_, e⟩ | e
      · cases e
      · cases e; exact HS.out⟩
  | true =>
    by_cases h0 : steps = 0
    · have HE := Aside0.mk (show Dk.step ⟨lim, true, steps, L⟩ = none by unfold Dk.step; rw [if_pos rfl, if_pos h0])
      have hb0 : (steps == 0) = true := by simpa using h0
      clear h0
      go_enter Tryz.func50, Tryz.ntmps50
      go_wp2
      exact bodyPost_ret (v := .bool false) (by simp [results, Tryz.results50, go_sem]) rfl ⟨by rw [HE.out]; rfl, Mut.refl _ _, fun D' e => by
        rw [HE.out] at e
        rcases e with ⟨e, _⟩ | e
        · rw [e]; exact HS.out
        · cases e⟩
    · have HE := Aside0.mk (show Dk.step ⟨lim, true, steps, L⟩ = some ⟨lim, true, steps - 1, L⟩ by unfold Dk.step; rw [if_pos rfl, if_neg h0])
      have hb0 : (steps == 0) = false := by simpa using h0
      have hw : wrap64 (steps - 1) = steps - 1 := wrap_in (by omega) (by omega)
      clear h0
      go_enter Tryz.func50, Tryz.ntmps50
      go_wp2
      (try rw [hw])
      have hM : Mut (fun i => i = s) w (w.setCell ⟨s, 3, none⟩ (.int .i64 (steps - 1))) := (Mut.refl (fun i => i = s) w).set (.inl rfl) 3 _
      have hK : (w.setCell ⟨s, 3, none⟩ (.int .i64 (steps - 1))).heap[s]? = some (.cells (sumpC lim rk true (steps - 1)) 54 (0, 0)) := blk_put HB.out 3 (.int .i64 (steps - 1)) rfl
      have hne : ∀ i, RF rk T i → i ≠ s := fun i hi e => by
        obtain ⟨cs, t, hc, ht⟩ := RF_typed HR.out i hi
        rw [e, HB.out] at hc
        cases hc
        rcases ht with ht | ht <;> exact absurd ht (by decide)
      have hty : ∀ i, i = s → i < w.heap.size → ∃ cs t, w.heap[i]? = some (.cells cs t (0, 0)) ∧ t ≠ 5 := fun i e _ => by subst e; exact ⟨_, _, HB.out, by decide⟩
      exact bodyPost_ret (v := .bool true) (by simp [results, Tryz.results50, go_sem]) rfl ⟨by rw [HE.out]; rfl, hM, fun D' e => by
        have e2 := HE.out
        rw [e2] at e
        rcases e with ⟨_, e⟩ | e
        · cases e
        · cases e
          exact ⟨⟨rk, T, hK, HR.out.mut hM (fun i hi e => hne i hi e), HV.out.mono (fun _ _ h => h.mut hM hty), HF.out⟩, (step_ok HS.out.ok e2).1⟩⟩
set_option maxRecDepth 100000 in
theorem New_calls (w : World) (n : Int) (h0 : 0 ≤ n) (h1 : n ≤ 1048576) :
    Calls Tryz.prog 6 #[.int .i64 n] w fun e w' => ∃ s F, e = .returned (.tuple #[.pointer (some ⟨s, 0, none⟩), .int .i64 0]) ∧ Below w.heap.size w w' ∧ SumpAt w' s F ⟨n, false, 0, []⟩ ∧ ∀ i, F i → w.heap.size ≤ i := by
  have hn0 : decide (n < 0) = false := decide_eq_false (by omega)
  have hn1 : decide (n > 1048576) = false := decide_eq_false (by omega)
  have HN := Aside0.mk (And.intro h0 h1)
  have hc := RNew_calls
  clear h0 h1
  go_enter Tryz.func6, Tryz.ntmps6
  go_wp2_with (go_at_call 16; refine (hc _).mono ?_; rintro e w1 ⟨rfl, rfl⟩; clear hc)
  have hr := RNew_at w
  have hB1 : Below w.heap.size w (w.alloc (.cells #[cmpV, .pointer none] 79)) := (Below.refl _ w).alloc (Nat.le_refl _) _
  have hsz : (w.alloc (.cells #[cmpV, .pointer none] 79)).heap.size = w.heap.size + 1 := by simp
  have hB2 := (hB1.alloc hB1.size (.cells (sumpC n w.heap.size false 0) 54))
  have hk := heap_alloc_new (w.alloc (.cells #[cmpV, .pointer none] 79)) (.cells (sumpC n w.heap.size false 0) 54)
  rw [hsz] at hk
  refine bodyPost_ret (v := .tuple #[.pointer (some ⟨w.heap.size + 1, 0, none⟩), .int .i64 0]) (by simp [results, Tryz.results6, go_sem]) rfl ⟨w.heap.size + 1, fun i => i = w.heap.size + 1 ∨ RF w.heap.size .nil i, rfl, hB2, ⟨⟨w.heap.size, .nil, hk, hr.below ((Below.refl _ _).alloc (Nat.le_refl _) _), .nil, fun i => Iff.rfl⟩, ?_⟩, ?_⟩
  · exact ⟨HN.out.1, HN.out.2, HN.out.1, Nat.zero_le _, List.Pairwise.nil, Int.le_refl 0, by show (0 : Int) ≤ 1000000; decide, by simp⟩
  · rintro i (rfl | rfl | h)
    · omega
    · exact Nat.le_refl _
    · simp [Tr.ids] at h
end Go.Proofs.YtdooajmgfoobfaaGreatDoor.H


