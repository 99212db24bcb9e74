/- tag.labels: are all labels some. -/
import Derived.Test.YtiddemgeehcjpaaTagP
import Derived.Test.YtiddemgeehcjpaaTagI
namespace Go.Proofs.Ytiddemgeehcjpaa.H
open Go.RowKit Go.Shelf Go.Proofs.Ytiddemgeehcjpaa.PA Go.Proofs.YtiddemgeehcjpaaW.PrintWords Go.Proofs.YtiddemgeehcjpaaW.PrintLast Go.Proofs.YtiddemgeehcjpaaW.PrintMore
set_option linter.unusedVariables false

theorem ret_bool {v : Value} {a b : Bool} (h : v = .bool a) (h' : a = b) : Ending.returned v = .returned (.bool b) := by rw [h, h']
def okS (x : S32) : Bool := wordB x.f0 && valueB x.f1

set_option maxHeartbeats 1000000 in
theorem labels1_calls (x : S32) (h0 : x.f0.size ≤ 140737488355328) (h1 : x.f1.size ≤ 140737488355328) (W : World) :
    Calls Try.prog 31 #[.agg #[.string x.f0, .string x.f1]] W fun e W' => e = .returned (.bool (!okS x)) ∧ Below W.heap.size W W' := by
  have huL := Try.underlying32
  have hw := fun W => tag_word.calls (x.f0.size + 2) x.f0 _ W (tagWord_eq x.f0 h0 _ (by omega))
  have hv := fun W => tag_Value.calls (x.f1.size + 1) x.f1 _ W (tagValue_eq x.f1 h1 _ (by omega))
  unfold okS
  cases hwb : wordB x.f0 with
  | false =>
    rw [hwb] at hw
    rw [Bool.false_and]
    clear hv hwb
    go_enter Try.func31, Try.ntmps31
    go_wp2_with (go_at_call 32; refine (hw _).mono ?_; rintro e w' ⟨rfl, ⟨nd, rfl⟩⟩)
    go_ret
    exact ⟨rfl, pw_below_drewN ((Below.refl _ W).alloc (Nat.le_refl _) _) _⟩
  | true =>
    rw [hwb] at hw
    rw [Bool.true_and]
    clear hwb
    generalize valueB x.f1 = vb at hv ⊢
    go_enter Try.func31, Try.ntmps31
    go_wp2_with (first | (go_at_call 32; refine (hw _).mono ?_; rintro e w' ⟨rfl, ⟨nd, rfl⟩⟩) | (go_at_call 33; refine (hv _).mono ?_; rintro e w' ⟨rfl, ⟨nd2, rfl⟩⟩))
    go_ret
    exact ⟨rfl, pw_below_drewN ((Below.refl _ W).alloc (Nat.le_refl _) _) _⟩

theorem lab_at (l : List S32) (k : Nat) (h : k < l.length) : rd_T32 l (k : Int) = l[k] := by
  have := lab_rd id l k h
  rwa [List.map_id] at this

set_option maxRecDepth 100000 in
set_option maxHeartbeats 1000000 in
theorem indexFunc_calls (p : S32 → Bool) (A : Option Addr) (c : Nat) (l : List S32) (w : World) (hC : Kd.C k32 w A l.length l)
    (hp : ∀ W x, x ∈ l → Calls Try.prog 31 #[.agg #[.string x.f0, .string x.f1]] W fun e W' => e = .returned (.bool (p x)) ∧ Below W.heap.size W W') :
    Calls Try.prog 43 #[.slice A l.length c, .func (.func 31) #[] #[]] w fun e w' => (∃ i : Int, e = .returned (.int .i64 i) ∧ -1 ≤ i ∧ i ≤ 9223372036854775807 ∧ decide (0 ≤ i) = l.any p) ∧ Below w.heap.size w w' := by
  have huL := Try.underlying32
  have hmax : l.length ≤ 9223372036854775807 := hC.2.1
  have HC := Aside0.mk hC
  have HP := Aside0.mk hp
  have HBK := Aside0.mk (C_blk hC (by decide))
  clear hC hp
  go_enter Try.func43, Try.ntmps43
  go_wp2
  go_loopw [5, 8] (fun _ i wr => ∃ k : Nat, k ≤ l.length ∧ i = .int .i64 k ∧ (l.take k).any p = false ∧ Below w.heap.size w wr) (fun _ i _ => l.length - (intOf i).toNat)
  case atStart => exact ⟨0, Nat.zero_le _, rfl, by simp, Below.refl _ _⟩
  case round =>
    obtain ⟨k, hk, rfl, hpre, hb⟩ := hrel
    have HPRE := Aside0.mk hpre
    clear hpre
    by_cases hlt : k < l.length
    · obtain ⟨ad, rfl, hc0, hc1⟩ := at_T32 HC.out (k : Int) (by omega) (by omega)
      have hbk := HBK.out ad rfl (by omega)
      replace hc0 := (hb.cell (show (ad.add ((k : Int).toNat * 2)).block < _ by rw [ad_block]; exact hbk)).trans hc0
      replace hc1 := (hb.cell (p := ⟨(ad.add ((k : Int).toNat * 2)).block, (ad.add ((k : Int).toNat * 2)).off + 1, none⟩) (by rw [ad_block]; exact hbk)).trans hc1
      rw [lab_at l k hlt] at hc0 hc1
      simp only [Int.toNat_natCast] at hc0 hc1
      have hcall := fun W => HP.out W l[k] (List.getElem_mem hlt)
      have htk : (l.take (k + 1)).any p = ((l.take k).any p || p l[k]) := by rw [List.take_succ_eq_append_getElem hlt, List.any_append]; simp
      have hany : p l[k] = true → l.any p = true := fun h => List.any_eq_true.2 ⟨_, List.getElem_mem hlt, h⟩
      have HTK := Aside0.mk htk
      have HANY := Aside0.mk hany
      clear htk hany
      generalize l[k] = x at hc0 hc1 hcall HTK HANY
      cases hpx : p x with
      | true =>
        rw [hpx] at hcall HANY
        have HB := Aside0.mk hb
        clear hpx hb
        go_wp2_with (go_at_call 31; refine (hcall _).mono ?_; rintro e w' ⟨rfl, hb1⟩)
        go_ret
        exact ⟨⟨k, rfl, by omega, by omega, by rw [HANY.out trivial]; simp⟩, HB.out.trans (hb1.mono HB.out.size)⟩
      | false =>
        rw [hpx] at hcall HTK
        have HB := Aside0.mk hb
        clear hpx hb
        go_wp2_with (go_at_call 31; refine (hcall _).mono ?_; rintro e w' ⟨rfl, hb1⟩)
        go_roundw
        case rel => exact ⟨k + 1, by omega, by simp, by rw [HTK.out, HPRE.out]; rfl, HB.out.trans (hb1.mono HB.out.size)⟩
        case measure => simp [intOf]; omega
    · obtain rfl : k = l.length := by omega
      go_wp2
      go_ret
      exact ⟨⟨-1, rfl, by omega, by omega, by have := HPRE.out; rw [List.take_length] at this; rw [this]; rfl⟩, hb⟩

set_option maxHeartbeats 1000000 in
theorem containsFunc_calls (p : S32 → Bool) (A : Option Addr) (c : Nat) (l : List S32) (w : World) (hC : Kd.C k32 w A l.length l)
    (hp : ∀ W x, x ∈ l → Calls Try.prog 31 #[.agg #[.string x.f0, .string x.f1]] W fun e W' => e = .returned (.bool (p x)) ∧ Below W.heap.size W W') :
    Calls Try.prog 30 #[.slice A l.length c, .func (.func 31) #[] #[]] w fun e w' => e = .returned (.bool (l.any p)) ∧ Below w.heap.size w w' := by
  have hcon := indexFunc_calls p A c l w hC hp
  clear hC hp
  generalize l.any p = r at hcon ⊢
  go_enter Try.func30, Try.ntmps30
  go_wp2_with (go_at_call 43; refine hcon.mono ?_; rintro e w' ⟨⟨i, rfl, hi1, hi2, hi3⟩, hb⟩; have HI := Aside0.mk hi3; clear hi3)
  go_ret
  exact ⟨ret_bool rfl HI.out, hb⟩

-- EXT tidemill/tag.labels plain making
def tag_labels.f (l0 : List S32) : Option (Bool) := if l0.all (fun x => decide (x.f0.size ≤ 140737488355328) && decide (x.f1.size ≤ 140737488355328)) = true then some (l0.all okS) else none
set_option maxHeartbeats 1000000 in
theorem tag_labels.calls (A0 : Option Addr) (c0 : Nat) (l0 : List S32) (r : Bool) (w : World) (hr0 : Kd.C k32 w A0 l0.length l0) (hc0 : l0.length ≤ c0) (h : tag_labels.f l0 = some r) :
    Calls Try.prog 16 #[.slice A0 l0.length c0] w fun e w' => e = .returned (.bool r) ∧ Below w.heap.size w w' := by
  unfold tag_labels.f at h
  split at h
  · rename_i hs
    obtain rfl := Option.some.inj h
    simp only [List.all_eq_true, Bool.and_eq_true, decide_eq_true_eq] at hs
    have hcon := containsFunc_calls (fun x => !okS x) A0 c0 l0 w hr0 (fun W x hx => labels1_calls x (hs x hx).1 (hs x hx).2 W)
    have e : l0.all okS = !l0.any (fun x => !okS x) := by rw [List.not_any_eq_all_not]; simp
    rw [e]
    clear hr0 hs e h
    generalize l0.any (fun x => !okS x) = q at hcon ⊢
    go_enter Try.func16, Try.ntmps16
    go_wp2_with (go_at_call 30; refine hcon.mono ?_; rintro e w' ⟨rfl, hb⟩)
    go_ret
    exact ⟨rfl, hb⟩
  · cases h
end Go.Proofs.Ytiddemgeehcjpaa.H
