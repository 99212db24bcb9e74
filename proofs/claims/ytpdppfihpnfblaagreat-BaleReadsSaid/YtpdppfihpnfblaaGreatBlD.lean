/- coil's Coil: Up, Int, Text, Mark, Bytes; bale's ups and ints. -/
import Derived.Test.YtpdppfihpnfblaaGreatBlC
import Derived.Lib.LazyBuf
namespace Go.Proofs.YtpdppfihpnfblaaGreat.H
open Go.RowKit Go.Shelf Go.Proofs.YtpdppfihpnfblaaGreat.PA Go.Proofs.YtpdppfihpnfblaaGreatW.PrintWords Go.Proofs.YtpdppfihpnfblaaGreatW.PrintLast Go.Proofs.YtpdppfihpnfblaaGreatW.PrintMore
set_option linter.unusedVariables false
set_option linter.unusedSimpArgs false
def upB (n : Int) : List Int := if 0 ≤ n then numB n.toNat else []
def intB (n : Int) : List Int := if 4611686018427387904 ≤ n ∨ n < -4611686018427387904 then [] else if n < 0 then numB (-(n + 1) * 2 + 1).toNat else numB (n * 2).toNat
def textB (s : ByteArray) : List Int := numB s.size ++ bytesOf s
def markB (b : Bool) : List Int := if b then [1] else [0]
theorem upB_len {n : Int} (h : n < 18446744073709551616) : (upB n).length ≤ 11 := by
  unfold upB
  split
  · exact numB_len (by omega)
  · simp
theorem intB_len (n : Int) : (intB n).length ≤ 11 := by
  unfold intB
  split
  · simp
  · split
    · exact numB_len (by omega)
    · exact numB_len (by omega)
theorem cup_calls (w0 : World) (g : Nat) (bs : List Int) (n : Int) (hn : n ≤ 9223372036854775807) (hl : bs.length ≤ 100000000000000) (w : World) (h : CS w0 g bs w) :
    Calls Tryz.prog 49 #[.pointer (some ⟨g, 0, none⟩), .int .i64 n] w fun e w' => (∃ v, e = .returned v) ∧ CS w0 g (bs ++ upB n) w' ∧ PF g w w' := by
  have HS := Aside0.mk h
  by_cases h0 : 0 ≤ n
  · obtain ⟨m, rfl⟩ := Int.eq_ofNat_of_zero_le h0
    have hw : IntKind.u64.wrap (m : Int) = (m : Int) := wraps_u64 _ (by omega) (by omega)
    have hc := fun W (hW : CS w0 g bs W) => cnum_calls w0 g bs m (by omega) hl W hW
    have e1 : upB (m : Int) = numB m := by unfold upB; rw [if_pos h0, Int.toNat_natCast]
    rw [e1]
    clear h hl
    go_enter Tryz.func49, Tryz.ntmps49
    go_wp2_with (go_at_call 78; refine (hc _ HS.out).mono ?_; rintro e w1 ⟨rfl, hr, hp⟩; have HR := Aside0.mk hr; have HP := Aside0.mk hp; clear hr hp)
    exact bodyPost_ret (v := .bool true) (by simp [results, Tryz.results49, go_sem]) rfl ⟨⟨_, rfl⟩, HR.out, HP.out⟩
  · have e1 : upB n = [] := by unfold upB; rw [if_neg h0]
    rw [e1, List.append_nil]
    clear h hl
    go_enter Tryz.func49, Tryz.ntmps49
    go_wp2_with fail
    exact bodyPost_ret (v := .bool false) (by simp [results, Tryz.results49, go_sem]) rfl ⟨⟨_, rfl⟩, HS.out, PF.refl HS.out.lt⟩
theorem cint_calls (w0 : World) (g : Nat) (bs : List Int) (n : Int) (hn0 : -9223372036854775808 ≤ n) (hn : n ≤ 9223372036854775807) (hl : bs.length ≤ 100000000000000) (w : World) (h : CS w0 g bs w) :
    Calls Tryz.prog 61 #[.pointer (some ⟨g, 0, none⟩), .int .i64 n] w fun e w' => (∃ v, e = .returned v) ∧ CS w0 g (bs ++ intB n) w' ∧ PF g w w' := by
  have HS := Aside0.mk h
  by_cases h1 : 4611686018427387904 ≤ n ∨ n < -4611686018427387904
  · have e1 : intB n = [] := by unfold intB; rw [if_pos h1]
    rw [e1, List.append_nil]
    clear h hl e1
    rcases h1 with h1 | h1
    · go_enter Tryz.func61, Tryz.ntmps61
      go_wp2_with fail
      exact bodyPost_ret (v := .bool false) (by simp [results, Tryz.results61, go_sem]) rfl ⟨⟨_, rfl⟩, HS.out, PF.refl HS.out.lt⟩
    · have h2 : ¬ 4611686018427387904 ≤ n := by omega
      go_enter Tryz.func61, Tryz.ntmps61
      go_wp2_with fail
      exact bodyPost_ret (v := .bool false) (by simp [results, Tryz.results61, go_sem]) rfl ⟨⟨_, rfl⟩, HS.out, PF.refl HS.out.lt⟩
  · have h2 : ¬ 4611686018427387904 ≤ n := by omega
    have h3 : ¬ n < -4611686018427387904 := by omega
    by_cases h4 : n < 0
    · obtain ⟨m, hm⟩ : ∃ m : Nat, (m : Int) = -(n + 1) * 2 + 1 := ⟨(-(n + 1) * 2 + 1).toNat, by omega⟩
      have e1 : intB n = numB m := by unfold intB; rw [if_neg h1, if_pos h4, ← hm, Int.toNat_natCast]
      have hc := fun W (hW : CS w0 g bs W) => cnum_calls w0 g bs m (by omega) hl W hW
      have q1 : IntKind.u64.wrap (-(n + 1)) = -(n + 1) := wraps_u64 _ (by omega) (by omega)
      have q2 : IntKind.u64.wrap (-(n + 1) * 2) = -(n + 1) * 2 := wraps_u64 _ (by omega) (by omega)
      have q3 : IntKind.u64.wrap (-(n + 1) * 2 + 1) = (m : Int) := by rw [hm]; exact wraps_u64 _ (by omega) (by omega)
      rw [e1]
      clear h hl e1 h1 hm
      go_enter Tryz.func61, Tryz.ntmps61
      go_wp2_with (go_at_call 78; refine (hc _ HS.out).mono ?_; rintro e w1 ⟨rfl, hr, hp⟩; have HR := Aside0.mk hr; have HP := Aside0.mk hp; clear hr hp)
      exact bodyPost_ret (v := .bool true) (by simp [results, Tryz.results61, go_sem]) rfl ⟨⟨_, rfl⟩, HR.out, HP.out⟩
    · obtain ⟨m, hm⟩ : ∃ m : Nat, (m : Int) = n * 2 := ⟨(n * 2).toNat, by omega⟩
      have e1 : intB n = numB m := by unfold intB; rw [if_neg h1, if_neg h4, ← hm, Int.toNat_natCast]
      have hc := fun W (hW : CS w0 g bs W) => cnum_calls w0 g bs m (by omega) hl W hW
      have q1 : IntKind.u64.wrap n = n := wraps_u64 _ (by omega) (by omega)
      have q2 : IntKind.u64.wrap (n * 2) = (m : Int) := by rw [hm]; exact wraps_u64 _ (by omega) (by omega)
      rw [e1]
      clear h hl e1 h1 hm
      go_enter Tryz.func61, Tryz.ntmps61
      go_wp2_with (go_at_call 78; refine (hc _ HS.out).mono ?_; rintro e w1 ⟨rfl, hr, hp⟩; have HR := Aside0.mk hr; have HP := Aside0.mk hp; clear hr hp)
      exact bodyPost_ret (v := .bool true) (by simp [results, Tryz.results61, go_sem]) rfl ⟨⟨_, rfl⟩, HR.out, HP.out⟩
/-- Where the row lies behind the append of a string. -/
theorem append_string_row {P : Program} (w : World) (base : Nat) (t u ty e : TypeId) (i : TypeInfo) (ht : P.underlying t = some (.slice e)) (hu : P.underlying u = some .string) (hi : P.info? e = some i) (hz : i.zero = some (.int .u8 0)) (hsize : i.size = 1) (hby : i.bytes = 1)
    (v : Value) (n : Nat) (xs : List Value) (hown : w.ownsRow base e 1 v n xs) (s : ByteArray) (h63 : n + s.size ≤ maxLen) (hbytes : n + s.size ≤ 140737488355328) (v' : Value) (w' : World) (hrun : (Builtin.append_ #[t, u] ty #[v, .string s]).run P w = .ok v' w') :
    v'.ownBlock = v.ownBlock ∨ ∃ b, v'.ownBlock = some b ∧ w.heap.size ≤ b := by
  have hsmall : n + s.size ≤ 9223372036854775807 := by simp only [maxLen] at h63; omega
  rcases hown.2 with ⟨rfl, rfl⟩ | ⟨g, cap, cur, rfl, hbg, hg, hnc, hcm, hcs, htake⟩
  · by_cases hm : s.size = 0
    · have hf := Lib.run_firstCells_string (P := P) w 1 s
      rw [hm] at hf
      simp [Builtin.append_, run_underlying ht, run_underlying hu, sizeOf, typeInfo, hi, hsize, Builtin.lenOf, hm, hf] at hrun
      obtain ⟨rfl, rfl⟩ := hrun
      exact .inl rfl
    · have hr := run_append_nil_string (P := P) w t u ty e i (.int .u8 0) ht hu hi hz s (by omega) (by omega) (by rw [hby]; omega)
      rw [hrun] at hr
      injection hr with hr _
      subst hr
      exact .inr ⟨w.heap.size, rfl, Nat.le_refl _⟩
  · by_cases hroom : n + s.size ≤ cap
    · have hcs' : cur.size = cap := by simpa using hcs
      have hr := Lib.run_append_room_string (P := P) w t u ty e i ht hu hi hsize g n cap cur hg s hroom (by omega)
      rw [hrun] at hr
      injection hr with hr _
      subst hr
      exact .inl rfl
    · have hxl : xs.length = n := by simpa using hown.1
      have holds : ∀ j u, xs[j]? = some u → w.cell? ((⟨g, 0, none⟩ : Addr).add j) = some u := hown.cells (g := g) rfl
      have hr := Lib.run_append_grow_string (P := P) w t u ty e i (.int .u8 0) ht hu hi hz ⟨g, 0, none⟩ n cap xs (by rw [hsize]; simpa using hxl) holds s (by omega) (by omega) (by rw [hby]; exact growslice_fits (by omega) (by omega))
      rw [hrun] at hr
      injection hr with hr _
      subst hr
      exact .inr ⟨w.heap.size, rfl, Nat.le_refl _⟩
theorem wpList_append_string_at {P : Program} (w : World) {ops : Array Oper} {rest : List Oper} {o : Oper} {a : Act} {Q : Exit → Act → World → Prop} (hgd : o.guard = none) (sl x : Operand) (t u : TypeId)
    (ho : o.op = .call { callee := .builtin .append, args := #[sl, x], argTypes := #[t, u] })
    (base : Nat) (e : TypeId) (i : TypeInfo) (ht : P.underlying t = some (.slice e)) (hu : P.underlying u = some .string) (hi : P.info? e = some i) (hz : i.zero = some (.int .u8 0))
    (hsize : i.size = 1) (hby : i.bytes = 1)
    (v : Value) (n : Nat) (xs : List Value) (hs : a.eval sl = v) (hown : w.ownsRow base e 1 v n xs) (s : ByteArray) (hx : a.eval x = .string s)
    (h63 : n + s.size ≤ maxLen) (hbytes : n + s.size ≤ 140737488355328) (hbase : base ≤ w.heap.size)
    (h : ∀ v' w', w'.ownsRow base e 1 v' (n + s.size) (xs ++ Lib.strCells s) → w.grownBy w' v.ownBlock → (v'.ownBlock = v.ownBlock ∨ ∃ b, v'.ownBlock = some b ∧ w.heap.size ≤ b) → wpList P ops Q rest (a.put o.dst v') w') : wpList P ops Q (o :: rest) a w := by
  refine wpList_plain hgd fun K hK => ?_
  obtain ⟨v', w', hr, h2, h3, _⟩ := Lib.run_append_own_string (P := P) w base t u o.type e i ht hu hi hz hsize hby v n xs hown s h63 hbytes hbase
  have hat := append_string_row (P := P) w base t u o.type e i ht hu hi hz hsize hby v n xs hown s h63 hbytes v' w' hr
  unfold Oper.wp execOp
  simp only [ho, resolve, invoke, builtin, Sem.run_bind, Sem.run_pure, Result.andThen_ok, List.map_toArray, List.map_cons, List.map_nil, hs, hx, hr]
  exact hK _ _ (h v' w' h2 h3 hat)
/-- What an append to the coil's row leaves, once it is stored. -/
theorem CS.fin {w0 W w1 : World} {g : Nat} {bs xs : List Int} {cv v1 : Value} (h : CS w0 g bs W) (hv : W.heap[g]? = some (.cells #[cv] 139 (0, 0))) (hc : Kd.R (Kd.int .u8) 5 W w0.heap.size (fun _ => True) cv bs) (hg : W.grownBy w1 cv.ownBlock) (hr : Kd.R (Kd.int .u8) 5 w1 w0.heap.size (fun _ => True) v1 (bs ++ xs)) (hat : v1.ownBlock = cv.ownBlock ∨ ∃ b, v1.ownBlock = some b ∧ W.heap.size ≤ b) :
    w1.cell? ⟨g, 0, none⟩ = some cv ∧ w1.frozen? ⟨g, 0, none⟩ = false ∧ CS w0 g (bs ++ xs) (w1.setCell ⟨g, 0, none⟩ v1) ∧ PF g W (w1.setCell ⟨g, 0, none⟩ v1) := by
  have hv1 := blk_grown hv hg (Kd.R_ne hc hv (by decide))
  have hown := Kd.own_of_R hc
  exact ⟨blk_cell hv1 0, blk_frozen hv1 0, ⟨(h.1.grown hg h.1.size (fun k hk => own_base hown k hk)).setCell (p := ⟨g, 0, none⟩) h.2.1 _, h.2.1, v1, by simpa using blk_set hv1 0 v1, Kd.R_set hr hv1 (by decide) 0 _⟩, PF.put hv hv1 hg hat⟩
theorem CS.append_str {P : Program} {ops : Array Oper} {rest : List Oper} {o : Oper} {a : Act} {Q : Exit → Act → World → Prop} {w0 W : World} {g : Nat} {bs : List Int} {v : Value} (s : ByteArray) (hP : P = Tryz.prog) (hgd : o.guard = none) (sl x : Operand)
    (ho : o.op = .call { callee := .builtin .append, args := #[sl, x], argTypes := #[22, 9] }) (hs : a.eval sl = v) (hx : a.eval x = .string s) (hS : CS w0 g bs W) (hv : W.heap[g]? = some (.cells #[v] 139 (0, 0))) (hl : bs.length + s.size ≤ 140737488355328)
    (h : ∀ A1 n1 c1 w1, w1.cell? ⟨g, 0, none⟩ = some v → w1.frozen? ⟨g, 0, none⟩ = false → (CS w0 g (bs ++ bytesOf s) (w1.setCell ⟨g, 0, none⟩ (.slice A1 n1 c1)) ∧ PF g W (w1.setCell ⟨g, 0, none⟩ (.slice A1 n1 c1))) → wpList P ops Q rest (a.put o.dst (.slice A1 n1 c1)) w1) :
    wpList P ops Q (o :: rest) a W := by
  subst hP
  obtain ⟨v0, hv0, hc⟩ := hS.2.2
  obtain rfl : v0 = v := by rw [hv0] at hv; injection hv with hv; injection hv with hv; simpa using hv
  obtain ⟨i0, hi, hz⟩ := Option.map_eq_some_iff.1 info5
  simp only [Prod.mk.injEq] at hz
  obtain ⟨hz0, hz1, hz2⟩ := hz
  have hown := Kd.own_of_R hc
  refine wpList_append_string_at W hgd sl x 22 9 ho w0.heap.size 5 i0 Tryz.underlying22 Tryz.underlying9 hi hz0 hz1 hz2 v0 bs.length (encs (Value.int .u8) bs) hs hown s hx (by unfold maxLen; omega) hl hS.1.size ?_
  intro v' w' hown' hg hat
  have e1 : encs (Value.int .u8) (bs ++ bytesOf s) = encs (Value.int .u8) bs ++ Lib.strCells s := by simp [encs, bytesOf, Lib.strCells]
  have hR : Kd.R (Kd.int .u8) 5 w' w0.heap.size (fun _ => True) v' (bs ++ bytesOf s) := Kd.R_of_own (by rw [e1, List.length_append, bytesOf_length]; exact hown') (fun _ _ => trivial)
  obtain ⟨A1, n1, c1, e⟩ : ∃ A n c, v' = .slice A n c := by obtain ⟨A, c, e⟩ := Kd.R_slice hR; exact ⟨A, _, c, e⟩
  subst e
  have hf := CS.fin hS hv0 hc hg hR hat
  exact h A1 n1 c1 w' hf.1 hf.2.1 hf.2.2
theorem CS.append_one {P : Program} {ops : Array Oper} {rest : List Oper} {o : Oper} {a : Act} {Q : Exit → Act → World → Prop} {w0 W : World} {g : Nat} {bs : List Int} {v : Value} (y : Int) (hP : P = Tryz.prog) (hgd : o.guard = none) (sl x : Operand)
    (ho : o.op = .call { callee := .builtin .append, args := #[sl, x], argTypes := #[22, 22] }) (hs : a.eval sl = v) (hx : a.eval x = .slice (some ⟨W.heap.size, 0, none⟩) 1 1) (hS : CS w0 g bs W) (hv : W.heap[g]? = some (.cells #[v] 139 (0, 0))) (hl : bs.length + 1 ≤ 140737488355328)
    (h : ∀ A1 n1 c1 w1, w1.cell? ⟨g, 0, none⟩ = some v → w1.frozen? ⟨g, 0, none⟩ = false → (CS w0 g (bs ++ [y]) (w1.setCell ⟨g, 0, none⟩ (.slice A1 n1 c1)) ∧ PF g W (w1.setCell ⟨g, 0, none⟩ (.slice A1 n1 c1))) → wpList P ops Q rest (a.put o.dst (.slice A1 n1 c1)) w1) :
    wpList P ops Q (o :: rest) a (W.alloc (.cells #[.int .u8 y] 5)) := by
  subst hP
  obtain ⟨v0, hv0, hc⟩ := hS.2.2
  obtain rfl : v0 = v := by rw [hv0] at hv; injection hv with hv; injection hv with hv; simpa using hv
  refine Kd.R_append (Kd.int .u8) (w0 := w0) w0.heap.size hgd sl x 22 5 (.int .u8 0) 1 ho Tryz.underlying22 info5 rfl (by decide) (by omega) v0 bs y [.int .u8 y] (fun _ => True) (fun _ => False) hs hx rfl (fun _ hk => hk.elim) (fun _ _ => trivial) hc hS.1 hS.1.size (by omega) ?_
  intro v' w' hR _ hg hat
  obtain ⟨A1, n1, c1, e⟩ : ∃ A n c, v' = .slice A n c := by obtain ⟨A, c, e⟩ := Kd.R_slice hR; exact ⟨A, _, c, e⟩
  subst e
  have hf := CS.fin hS hv0 hc hg hR hat
  exact h A1 n1 c1 w' hf.1 hf.2.1 hf.2.2
theorem ctext_calls (w0 : World) (g : Nat) (bs : List Int) (s : ByteArray) (hl : bs.length + s.size ≤ 100000000000000) (w : World) (h : CS w0 g bs w) :
    Calls Tryz.prog 30 #[.pointer (some ⟨g, 0, none⟩), .string s] w fun e w' => e = .returned (.tuple #[]) ∧ CS w0 g (bs ++ textB s) w' ∧ PF g w w' := by
  have hc := cup_calls w0 g bs (s.size : Int) (by omega) (by omega) w h
  have e1 : upB (s.size : Int) = numB s.size := by unfold upB; rw [if_pos (by omega), Int.toNat_natCast]
  rw [e1] at hc
  have HL := Aside0.mk (show (bs ++ numB s.size).length + s.size ≤ 140737488355328 by have := numB_len (n := s.size) (by omega); rw [List.length_append]; omega)
  clear h hl e1
  go_enter Tryz.func30, Tryz.ntmps30
  go_wp2_with (first
    | (go_at_call 49; refine hc.mono ?_; rintro e w1 ⟨⟨vb, rfl⟩, hr, hp⟩; obtain ⟨cv, hcv, _⟩ := hr.2.2; have d0 := blk_cell hcv 0; have HCV := Aside0.mk hcv; have HR := Aside0.mk hr; have HP := Aside0.mk hp; clear hr hp hcv hc)
    | (at_builtin; refine CS.append_str (v := cv) s rfl rfl (.tmp 12) (.tmp 13) rfl rfl rfl HR.out HCV.out HL.out ?_; intro A1 n1 c1 w2 g0 g1 hfin; have FIN := Aside0.mk hfin; clear hfin d0))
  go_end0
  exact ⟨rfl, by unfold textB; rw [← List.append_assoc]; exact FIN.out.1, HP.out.trans FIN.out.2⟩
theorem cmark_calls (w0 : World) (g : Nat) (bs : List Int) (b : Bool) (hl : bs.length ≤ 100000000000000) (w : World) (h : CS w0 g bs w) :
    Calls Tryz.prog 32 #[.pointer (some ⟨g, 0, none⟩), .bool b] w fun e w' => e = .returned (.tuple #[]) ∧ CS w0 g (bs ++ markB b) w' ∧ PF g w w' := by
  obtain ⟨cv, hcv, _⟩ := h.2.2
  have d0 := blk_cell hcv 0
  have HCV := Aside0.mk hcv
  have HR := Aside0.mk h
  have HL := Aside0.mk (show bs.length + 1 ≤ 140737488355328 by omega)
  clear h hl hcv
  cases b with
  | true =>
    go_enter Tryz.func32, Tryz.ntmps32
    go_wp2_with (at_builtin; refine CS.append_one (v := cv) 1 rfl rfl (.tmp 10) (.tmp 12) rfl rfl rfl HR.out HCV.out HL.out ?_; intro A1 n1 c1 w2 g0 g1 hfin; have FIN := Aside0.mk hfin; clear hfin d0)
    go_end0
    exact ⟨rfl, FIN.out.1, FIN.out.2⟩
  | false =>
    go_enter Tryz.func32, Tryz.ntmps32
    go_wp2_with (at_builtin; refine CS.append_one (v := cv) 0 rfl rfl (.tmp 10) (.tmp 12) rfl rfl rfl HR.out HCV.out HL.out ?_; intro A1 n1 c1 w2 g0 g1 hfin; have FIN := Aside0.mk hfin; clear hfin d0)
    go_end0
    exact ⟨rfl, FIN.out.1, FIN.out.2⟩
/-- A slice of bytes that is told, and read. -/
structure BytesOut (bs : List Int) (w : World) (e : Ending) (w' : World) : Prop where
  out : ∃ A' n' c', e = .returned (.slice A' n' c') ∧ n' = bs.length ∧ n' ≤ c' ∧ Kd.C (Kd.int .u8) w' A' bs.length bs
  hb : Below w.heap.size w w'
set_option maxRecDepth 100000 in
set_option maxHeartbeats 8000000 in
theorem clone_calls (A : Option Addr) (c : Nat) (xs : List Int) (w : World) (hC : Kd.C (Kd.int .u8) w A xs.length xs) (hA : A = none → xs = []) (hl : xs.length ≤ 140737488355328) :
    Calls Tryz.prog 89 #[.slice A xs.length c] w (BytesOut xs w) := by
  have he := fun (a : Option Addr) (l c : Nat) W => Go.run_eql_slice_nil (P := Tryz.prog) W 22 5 a l c Tryz.underlying22
  rcases A with _ | ad
  · obtain rfl := hA rfl
    simp only [List.length_nil]
    go_enter Tryz.func89, Tryz.ntmps89
    go_wp2_with fail
    exact bodyPost_ret (v := .slice none 0 0) (by simp [results, Tryz.results89, go_sem]) rfl ⟨⟨none, 0, 0, rfl, rfl, Nat.le_refl _, Kd.C_nil _ _⟩, Below.refl _ _⟩
  · obtain ⟨n, hn⟩ : ∃ n, xs.length = n := ⟨_, rfl⟩
    have HC := Aside0.mk (show ReadsRow (fun x cs => cs = [.int .u8 x]) (Kd.int .u8).sz (w.alloc (.cells #[] 5)) (some ad) n xs by rw [← hn]; exact Kd.C_below hC ((Below.refl _ w).alloc (Nat.le_refl _) _))
    have HL := Aside0.mk (show (([] : List Int).length + n) * 1 ≤ 140737488355328 by simp; omega)
    have HN := Aside0.mk hn
    have HR := Aside0.mk (show Kd.R (Kd.int .u8) 5 (w.alloc (.cells #[] 5)) w.heap.size (fun _ => True) (.slice (some ⟨w.heap.size, 0, none⟩) 0 0) [] from Kd.R_of_own (by simpa [encs, nums] using own_lit w w.heap.size 5 .u8 [] (Nat.le_refl _) (by simp)) (fun _ _ => trivial))
    have HB := Aside0.mk (show Below w.heap.size w (w.alloc (.cells #[] 5)) from (Below.refl _ w).alloc (Nat.le_refl _) _)
    have HS := Aside0.mk (show w.heap.size ≤ (w.alloc (.cells #[] 5)).heap.size by simp)
    rw [hn]
    clear hC hl hA hn
    go_enter Tryz.func89, Tryz.ntmps89
    go_wp2_with (at_builtin; refine Kd.R_append_rows (Rr := fun x cs => cs = [.int .u8 x]) (Kd.int .u8) (w0 := w) w.heap.size rfl (.tmp 5) (.tmp 6) 22 5 (.int .u8 0) 1 rfl Tryz.underlying22 info5 rfl (by decide) (by omega) (.slice (some ⟨w.heap.size, 0, none⟩) 0 0) [] xs (some ad) n c (fun _ => True) (fun _ => False) rfl rfl HR.out HC.out (fun _ _ h => h) (fun _ hk => hk.elim) (fun _ _ => trivial) HB.out HS.out HL.out ?_; intro v1 w1 hr hb hg hat; obtain ⟨A1, n1, c1, e1, hn1, hc1, hC1⟩ : ∃ A n c, v1 = .slice A n c ∧ n = xs.length ∧ n ≤ c ∧ Kd.C (Kd.int .u8) w1 A xs.length xs := (by obtain ⟨A, c, e, h1, h2⟩ := Kd.R_reads hr; simp only [List.nil_append] at e h1 h2; exact ⟨A, _, c, e, rfl, h1, h2⟩); subst e1; have HN1 := Aside0.mk hn1; have HC1 := Aside0.mk hc1; have HCC := Aside0.mk hC1; have HB1 := Aside0.mk hb; clear hr hb hg hat hn1 hc1 hC1)
    exact bodyPost_ret (v := .slice A1 n1 c1) (by simp [results, Tryz.results89, go_sem]) rfl ⟨⟨A1, n1, c1, rfl, HN1.out, HC1.out, HCC.out⟩, HB1.out⟩
theorem cbytes_calls (w0 : World) (g : Nat) (bs : List Int) (hl : bs.length ≤ 140737488355328) (w : World) (h : CS w0 g bs w) :
    Calls Tryz.prog 60 #[.pointer (some ⟨g, 0, none⟩)] w (BytesOut bs w) := by
  obtain ⟨v, hv, hr⟩ := h.2.2
  obtain ⟨A, c, e, hc, hC⟩ := Kd.R_reads hr
  have hA : A = none → bs = [] := by
    intro hA
    subst hA
    cases bs with
    | nil => rfl
    | cons b r => obtain ⟨ad, h2, _⟩ := hC.2.2 (by simp); cases h2
  have hcl := clone_calls A c bs w hC hA hl
  obtain ⟨n, hn⟩ : ∃ n, bs.length = n := ⟨_, rfl⟩
  subst e
  have d0 := blk_cell hv 0
  rw [hn] at d0 hcl
  clear hv hr hC hc hn h hl
  go_enter Tryz.func60, Tryz.ntmps60
  go_wp2_with (go_at_call 89; refine (show Calls _ _ _ _ _ from hcl).mono ?_; rintro e w1 ⟨⟨A', n', c', rfl, hn, hcc, hCC⟩, hb⟩; have HO := Aside0.mk (And.intro hn (And.intro hcc hCC)); have HB := Aside0.mk hb; clear hn hcc hCC hb hcl)
  exact bodyPost_ret (v := .slice A' n' c') (by simp [results, Tryz.results60, go_sem]) rfl ⟨⟨A', n', c', rfl, HO.out.1, HO.out.2.1, HO.out.2.2⟩, HB.out⟩
end Go.Proofs.YtpdppfihpnfblaaGreat.H
