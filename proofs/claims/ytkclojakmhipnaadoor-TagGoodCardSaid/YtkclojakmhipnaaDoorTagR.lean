/- The reference's Text of a series. -/
import Derived.Test.YtkclojakmhipnaaDoorTagT
import Derived.Test.YtkclojakmhipnaaDoorTagL
namespace Go.Proofs.YtkclojakmhipnaaDoor.H
open Go.RowKit Go.Shelf Go.Proofs.YtkclojakmhipnaaDoor.PA Go.Proofs.YtkclojakmhipnaaDoorW.PrintWords Go.Proofs.YtkclojakmhipnaaDoorW.PrintLast Go.Proofs.YtkclojakmhipnaaDoorW.PrintMore
set_option linter.unusedVariables false

set_option maxRecDepth 100000 in
set_option maxHeartbeats 4000000 in
theorem refText_calls (m : ByteArray) (A : Option Addr) (c : Nat) (l : List S53) (w : World) (hC : Kd.C k53 w A l.length l) (hm : m.size ≤ 4096) (hl : l.length ≤ 4096) (hs : ∀ x ∈ l, Short x) :
    Calls Tryd.prog 16 #[.agg #[.string m, .slice A l.length c]] w fun e w' => e = .returned (.string ⟨(textL m l).toArray⟩) ∧ Below w.heap.size w w' := by
  have huS := Tryd.underlying24
  have huL := Tryd.underlying53
  have HC := Aside0.mk hC
  have HS := Aside0.mk hs
  clear hC hs
  go_enter Tryd.func16, Tryd.ntmps16
  go_wp2
  go_loopw [3, 4, 10] (fun o _ i wr => ∃ (k : Nat) (out : ByteArray) (q : Nat), k ≤ l.length ∧ i = .int .i64 k ∧ o = .string out ∧ out.data.toList = m.data.toList ++ labs 123 (l.take k) ∧ wr = (w.alloc (.cells #[.string m, .slice A l.length c] 24)).drewN q) (fun _ _ i _ => l.length - (intOf i).toNat)
  case atStart => exact ⟨0, m, 0, Nat.zero_le _, rfl, rfl, by simp [labs], rfl⟩
  case round =>
    obtain ⟨k, out, q, hk, rfl, rfl, hout, rfl⟩ := hrel
    have hsz : out.size ≤ 4096 + 4096 * 8194 := by
      have h1 : out.data.toList.length = out.size := by simp
      rw [hout, List.length_append] at h1
      have h2 := labs_len 123 (l.take k) (fun x hx => HS.out x (List.mem_of_mem_take hx))
      have h3 : m.data.toList.length = m.size := by simp
      have h4 : (l.take k).length ≤ k := List.length_take_le _ _
      omega
    have HOUT := Aside0.mk hout
    clear hout
    by_cases hlt : k < l.length
    · obtain ⟨ad, rfl, hc0, hc1⟩ := at_T53 HC.out (k : Int) (by omega) (by omega)
      have hb : Below w.heap.size w ((w.alloc (.cells #[.string m, .slice (some ad) l.length c] 24)).drewN q) := pw_below_drewN ((Below.refl _ w).alloc (Nat.le_refl _) _) _
      have hb1 := World.block_lt_of_cell? w _ hc0
      replace hc0 := (hb.cell hb1).trans hc0
      replace hc1 := (hb.cell (p := ⟨(ad.add ((k : Int).toNat * 2)).block, (ad.add ((k : Int).toNat * 2)).off + 1, none⟩) hb1).trans hc1
      simp only [World.cell?_drewN] at hc0 hc1
      rw [lab_at l k hlt] at hc0 hc1
      simp only [Int.toNat_natCast] at hc0 hc1
      obtain ⟨hx0, hx1⟩ := HS.out l[k] (List.getElem_mem hlt)
      have q3 : (0 : Int) ≤ (k : Int) := by omega
      have q4 : (k : Int) < (l.length : Int) := by omega
      have htk : l.take (k + 1) = l.take k ++ [l[k]] := List.take_succ_eq_append_getElem hlt
      have HTK := Aside0.mk htk
      clear htk hb
      generalize l[k] = x at hc0 hc1 hx0 hx1 HTK
      have e0 : ∀ s : ByteArray, s.size = 1 → (out ++ s).size = out.size + 1 := fun s h => by rw [ByteArray.size_append, h]
      by_cases hk0 : k = 0
      · have hkb : ((k : Int) == 0) = true := by subst hk0; rfl
        have HK0 := Aside0.mk hk0
        clear hk0
        have b1 : (out ++ ⟨#[123]⟩).size ≤ 4096 + 4096 * 8194 + 1 := by rw [e0 _ rfl]; omega
        have b2 : (out ++ ⟨#[123]⟩ ++ x.f0).size ≤ 4096 + 4096 * 8194 + 1 + 4096 := by rw [ByteArray.size_append]; omega
        have b3 : (out ++ ⟨#[123]⟩ ++ x.f0 ++ ⟨#[61]⟩).size ≤ 4096 + 4096 * 8194 + 1 + 4096 + 1 := by rw [ByteArray.size_append, show (ByteArray.mk #[61]).size = 1 from rfl]; omega
        have b4 : (out ++ ⟨#[123]⟩ ++ x.f0 ++ ⟨#[61]⟩ ++ x.f1).size ≤ 4096 + 4096 * 8194 + 1 + 4096 + 1 + 4096 := by rw [ByteArray.size_append]; omega
        clear e0
        go_wp2
        go_quiet (fail)
        go_wp2
        go_roundw
        case rel =>
          refine ⟨k + 1, _, _, by omega, by simp, rfl, ?_, rfl⟩
          rw [HTK.out, labs_snoc, if_pos (by simp [HK0.out]), ← List.append_assoc, ← HOUT.out]
          simp [ByteArray.data_append]
        case measure => simp [intOf]; omega
      · have hkb : ((k : Int) == 0) = false := by simp; omega
        have b1 : (out ++ ⟨#[44]⟩).size ≤ 4096 + 4096 * 8194 + 1 := by rw [e0 _ rfl]; omega
        have b2 : (out ++ ⟨#[44]⟩ ++ x.f0).size ≤ 4096 + 4096 * 8194 + 1 + 4096 := by rw [ByteArray.size_append]; omega
        have b3 : (out ++ ⟨#[44]⟩ ++ x.f0 ++ ⟨#[61]⟩).size ≤ 4096 + 4096 * 8194 + 1 + 4096 + 1 := by rw [ByteArray.size_append, show (ByteArray.mk #[61]).size = 1 from rfl]; omega
        have b4 : (out ++ ⟨#[44]⟩ ++ x.f0 ++ ⟨#[61]⟩ ++ x.f1).size ≤ 4096 + 4096 * 8194 + 1 + 4096 + 1 + 4096 := by rw [ByteArray.size_append]; omega
        clear e0
        go_wp2
        go_quiet (fail)
        go_wp2
        go_roundw
        case rel =>
          have hne : l.take k ≠ [] := by
            intro h
            have h1 := congrArg List.length h
            rw [List.length_take, List.length_nil] at h1
            omega
          refine ⟨k + 1, _, _, by omega, by simp, rfl, ?_, rfl⟩
          rw [HTK.out, labs_snoc, if_neg hne, ← List.append_assoc, ← HOUT.out]
          simp [ByteArray.data_append]
        case measure => simp [intOf]; omega
    · obtain rfl : k = l.length := by omega
      have hb : Below w.heap.size w ((w.alloc (.cells #[.string m, .slice A l.length c] 24)).drewN q) := pw_below_drewN ((Below.refl _ w).alloc (Nat.le_refl _) _) _
      rw [List.take_length] at HOUT
      have q4 : ¬ ((l.length : Int) < (l.length : Int)) := by omega
      by_cases hz : l = []
      · subst hz
        go_wp2
        have he : out = ⟨(textL m []).toArray⟩ := by
          apply ByteArray.ext
          rw [← Array.toList_inj, HOUT.out]
          simp [textL, labs]
        exact bodyPost_ret (v := .string _) (by simp [results, Tryd.results16]; rfl) rfl ⟨by rw [he], hb⟩
      · have hz' : 0 < l.length := List.length_pos_iff.2 hz
        have b1 : (out ++ ⟨#[125]⟩).size ≤ 4096 + 4096 * 8194 + 1 := by rw [ByteArray.size_append, show (ByteArray.mk #[125]).size = 1 from rfl]; omega
        go_wp2
        have he : out ++ ⟨#[125]⟩ = ⟨(textL m l).toArray⟩ := by
          apply ByteArray.ext
          rw [← Array.toList_inj]
          simp only [ByteArray.data_append, Array.toList_append, HOUT.out]
          simp [textL, hz]
        exact bodyPost_ret (v := .string _) (by simp [results, Tryd.results16]; rfl) rfl ⟨by rw [he], hb⟩
-- EXT tidemill/tidemillref02.Text plain making
def tidemillref02_Text.f (a0_0 : ByteArray) (l0_1 : List S53) : Option (ByteArray) := if shortS a0_0 l0_1 = true then some ⟨(textL a0_0 l0_1).toArray⟩ else none
theorem tidemillref02_Text.calls (a0_0 : ByteArray) (A0_1 : Option Addr) (c0_1 : Nat) (l0_1 : List S53) (r : ByteArray) (w : World) (hr0_1 : Kd.C k53 w A0_1 l0_1.length l0_1) (hc0_1 : l0_1.length ≤ c0_1) (h : tidemillref02_Text.f a0_0 l0_1 = some r) :
    Calls Tryd.prog 16 #[.agg #[.string a0_0, .slice A0_1 l0_1.length c0_1]] w fun e w' => e = .returned (.string r) ∧ Below w.heap.size w w' := by
  unfold tidemillref02_Text.f at h
  split at h
  · rename_i hs
    obtain rfl := Option.some.inj h
    simp only [shortS, Bool.and_eq_true, decide_eq_true_eq, List.all_eq_true] at hs
    exact refText_calls a0_0 A0_1 c0_1 l0_1 w hr0_1 hs.1.1 hs.1.2 hs.2
  · cases h
end Go.Proofs.YtkclojakmhipnaaDoor.H
