/- bale's ups and ints. -/
import Derived.Test.YtpdppfihpnfblaaGreatBlD
namespace Go.Proofs.YtpdppfihpnfblaaGreat.H
open Go.RowKit Go.Shelf Go.Proofs.YtpdppfihpnfblaaGreat.PA Go.Proofs.YtpdppfihpnfblaaGreatW.PrintWords Go.Proofs.YtpdppfihpnfblaaGreatW.PrintLast Go.Proofs.YtpdppfihpnfblaaGreatW.PrintMore
set_option linter.unusedVariables false
set_option linter.unusedSimpArgs false
theorem ups_calls (w0 : World) (g : Nat) (bs : List Int) (l : List Int) (hi : ∀ x ∈ l, -9223372036854775808 ≤ x ∧ x ≤ 9223372036854775807) (hl : bs.length + 11 * l.length ≤ 100000000000000) (b o c T : Nat) (cs : Array Value) (w : World) (h : CS w0 g bs w)
    (hb : w.heap[b]? = some (.cells cs T (0, 0))) (hT : T ≠ 5) (hbg : b ≠ g) (hcs : ∀ j x, l[j]? = some x → cs[o + j]? = some (.int .i64 x)) :
    Calls Tryz.prog 31 #[.pointer (some ⟨g, 0, none⟩), .slice (some ⟨b, o, none⟩) l.length c] w fun e w' => e = .returned (.tuple #[]) ∧ CS w0 g (bs ++ l.flatMap upB) w' ∧ PF g w w' := by
  have HS := Aside0.mk h
  have HI := Aside0.mk hi
  have HL := Aside0.mk hl
  have HB := Aside0.mk hb
  have HC := Aside0.mk hcs
  have HT := Aside0.mk hT
  have HG := Aside0.mk hbg
  have hl0 : l.length ≤ 100000000000000 := by omega
  clear h hi hl hb hcs hT hbg
  go_enter Tryz.func31, Tryz.ntmps31
  go_wp2_with fail
  go_loopw [5, 8] (fun v5 v8 wr => ∃ j : Nat, j ≤ l.length ∧ v8 = .int .i64 j ∧ CS w0 g (bs ++ (l.take j).flatMap upB) wr ∧ PF g w wr) (fun _ v8 _ => l.length - (intOf v8).toNat)
  case atStart => exact ⟨0, Nat.zero_le _, rfl, by simpa using HS.out, PF.refl HS.out.lt⟩
  case round =>
    obtain ⟨j, hj, rfl, hcs, hpf⟩ := hrel
    have HCS := Aside0.mk hcs
    have HPF := Aside0.mk hpf
    clear hcs hpf
    by_cases hlt : j < l.length
    · have htk : (l.take (j + 1)).flatMap upB = (l.take j).flatMap upB ++ upB l[j] := by rw [List.take_succ_eq_append_getElem hlt, List.flatMap_append]; simp
      have hx := HI.out l[j] (List.getElem_mem hlt)
      have hcell : wr.cell? ⟨b, o + j, none⟩ = some (.int .i64 l[j]) := by
        rw [blk_cell (HPF.out.blk HS.out HB.out HG.out HT.out)]
        exact HC.out j _ (List.getElem?_eq_getElem hlt)
      have hlen : (bs ++ (l.take j).flatMap upB).length ≤ 100000000000000 := by
        have : ((l.take j).flatMap upB).length ≤ 11 * j := by
          have key : ∀ (r : List Int), (∀ x ∈ r, x ≤ 9223372036854775807) → (r.flatMap upB).length ≤ 11 * r.length := by
            intro r
            induction r with
            | nil => intro _; simp
            | cons x r ih =>
              intro hr
              have h1 := ih (fun y hy => hr y (by simp [hy]))
              have h2 : (upB x).length ≤ 11 := upB_len (by have := hr x (by simp); omega)
              rw [List.flatMap_cons, List.length_append, List.length_cons]
              omega
          have := key (l.take j) (fun x hx => (HI.out x (List.mem_of_mem_take hx)).2)
          rw [List.length_take] at this
          omega
        have := HL.out
        rw [List.length_append]
        omega
      have hadd : (⟨b, o, none⟩ : Addr).add j = ⟨b, o + j, none⟩ := by unfold Addr.add; split <;> simp_all
      have HTK := Aside0.mk htk
      clear htk
      generalize l[j] = x at hx hcell HTK
      have hc := cup_calls w0 g _ x hx.2 hlen wr HCS.out
      have HC1 := Aside0.mk hlen
      clear hx hlen
      go_wp2_with (go_at_call 49; refine hc.mono ?_; rintro e w1 ⟨⟨v, rfl⟩, hr, hp⟩; have HR := Aside0.mk hr; have HP := Aside0.mk hp; clear hr hp hc)
      go_roundw
      case rel => exact ⟨j + 1, by omega, by simp, by rw [HTK.out, ← List.append_assoc]; exact HR.out, HPF.out.trans HP.out⟩
      case measure => simp [intOf]; omega
    · obtain rfl : j = l.length := by omega
      have HF := Aside0.mk (show CS w0 g (bs ++ l.flatMap upB) wr by have := HCS.out; rwa [List.take_length] at this)
      clear HCS
      go_wp2
      go_end0
      exact ⟨rfl, HF.out, HPF.out⟩
theorem ints_calls (w0 : World) (g : Nat) (bs : List Int) (l : List Int) (hi : ∀ x ∈ l, -9223372036854775808 ≤ x ∧ x ≤ 9223372036854775807) (hl : bs.length + 11 * l.length ≤ 100000000000000) (b o c T : Nat) (cs : Array Value) (w : World) (h : CS w0 g bs w)
    (hb : w.heap[b]? = some (.cells cs T (0, 0))) (hT : T ≠ 5) (hbg : b ≠ g) (hcs : ∀ j x, l[j]? = some x → cs[o + j]? = some (.int .i64 x)) :
    Calls Tryz.prog 33 #[.pointer (some ⟨g, 0, none⟩), .slice (some ⟨b, o, none⟩) l.length c] w fun e w' => e = .returned (.tuple #[]) ∧ CS w0 g (bs ++ l.flatMap intB) w' ∧ PF g w w' := by
  have HS := Aside0.mk h
  have HI := Aside0.mk hi
  have HL := Aside0.mk hl
  have HB := Aside0.mk hb
  have HC := Aside0.mk hcs
  have HT := Aside0.mk hT
  have HG := Aside0.mk hbg
  have hl0 : l.length ≤ 100000000000000 := by omega
  clear h hi hl hb hcs hT hbg
  go_enter Tryz.func33, Tryz.ntmps33
  go_wp2_with fail
  go_loopw [5, 8] (fun v5 v8 wr => ∃ j : Nat, j ≤ l.length ∧ v8 = .int .i64 j ∧ CS w0 g (bs ++ (l.take j).flatMap intB) wr ∧ PF g w wr) (fun _ v8 _ => l.length - (intOf v8).toNat)
  case atStart => exact ⟨0, Nat.zero_le _, rfl, by simpa using HS.out, PF.refl HS.out.lt⟩
  case round =>
    obtain ⟨j, hj, rfl, hcs, hpf⟩ := hrel
    have HCS := Aside0.mk hcs
    have HPF := Aside0.mk hpf
    clear hcs hpf
    by_cases hlt : j < l.length
    · have htk : (l.take (j + 1)).flatMap intB = (l.take j).flatMap intB ++ intB l[j] := by rw [List.take_succ_eq_append_getElem hlt, List.flatMap_append]; simp
      have hx := HI.out l[j] (List.getElem_mem hlt)
      have hcell : wr.cell? ⟨b, o + j, none⟩ = some (.int .i64 l[j]) := by
        rw [blk_cell (HPF.out.blk HS.out HB.out HG.out HT.out)]
        exact HC.out j _ (List.getElem?_eq_getElem hlt)
      have hlen : (bs ++ (l.take j).flatMap intB).length ≤ 100000000000000 := by
        have : ((l.take j).flatMap intB).length ≤ 11 * j := by
          have key : ∀ (r : List Int), (∀ x ∈ r, x ≤ 9223372036854775807) → (r.flatMap intB).length ≤ 11 * r.length := by
            intro r
            induction r with
            | nil => intro _; simp
            | cons x r ih =>
              intro hr
              have h1 := ih (fun y hy => hr y (by simp [hy]))
              have h2 : (intB x).length ≤ 11 := intB_len x
              rw [List.flatMap_cons, List.length_append, List.length_cons]
              omega
          have := key (l.take j) (fun x hx => (HI.out x (List.mem_of_mem_take hx)).2)
          rw [List.length_take] at this
          omega
        have := HL.out
        rw [List.length_append]
        omega
      have hadd : (⟨b, o, none⟩ : Addr).add j = ⟨b, o + j, none⟩ := by unfold Addr.add; split <;> simp_all
      have HTK := Aside0.mk htk
      clear htk
      generalize l[j] = x at hx hcell HTK
      have hc := cint_calls w0 g _ x hx.1 hx.2 hlen wr HCS.out
      have HC1 := Aside0.mk hlen
      clear hx hlen
      go_wp2_with (go_at_call 61; refine hc.mono ?_; rintro e w1 ⟨⟨v, rfl⟩, hr, hp⟩; have HR := Aside0.mk hr; have HP := Aside0.mk hp; clear hr hp hc)
      go_roundw
      case rel => exact ⟨j + 1, by omega, by simp, by rw [HTK.out, ← List.append_assoc]; exact HR.out, HPF.out.trans HP.out⟩
      case measure => simp [intOf]; omega
    · obtain rfl : j = l.length := by omega
      have HF := Aside0.mk (show CS w0 g (bs ++ l.flatMap intB) wr by have := HCS.out; rwa [List.take_length] at this)
      clear HCS
      go_wp2
      go_end0
      exact ⟨rfl, HF.out, HPF.out⟩
end Go.Proofs.YtpdppfihpnfblaaGreat.H
