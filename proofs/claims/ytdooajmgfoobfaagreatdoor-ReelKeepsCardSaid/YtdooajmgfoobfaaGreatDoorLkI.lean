/- link: Frames. -/
import Derived.Test.YtdooajmgfoobfaaGreatDoorSuP
import Derived.Lib.AtoiErrMem
import Derived.Test.YtdooajmgfoobfaaGreatDoorRkN
namespace Go.Proofs.YtdooajmgfoobfaaGreatDoor.H
attribute [local go_sem] Oper.semAt_some
open Go.RowKit Go.Shelf Go.Proofs.YtdooajmgfoobfaaGreatDoor.PA Go.Proofs.YtdooajmgfoobfaaGreatDoorW.PrintWords Go.Proofs.YtdooajmgfoobfaaGreatDoorW.PrintLast Go.Proofs.YtdooajmgfoobfaaGreatDoorW.PrintMore
set_option linter.unusedVariables false
set_option linter.unusedSimpArgs false
/-- The sums of four bits. -/
def nibL : List Int := [0, 498536548, 997073096, 651767980, 1994146192, 1802195444, 1303535960, 1342533948, 3988292384, 4027552580, 3604390888, 3412177804, 2607071920, 2262029012, 2685067896, 3183342108]
def Nib (w : World) : Prop := ∀ j, j < 16 → w.cell? ⟨1, j, none⟩ = some (.int .u32 (nibL.getD j 0))
theorem Nib.keep {w w' : World} (h : Nib w) (hb : w'.heap[1]? = w.heap[1]?) : Nib w' := fun j hj => by
  rw [← h j hj]
  unfold World.cell?
  rw [hb]
def nib1 (s : Int) : Int := bits .xor .u32 (s / 16) (nibL.getD (s % 16).toNat 0)
def sum1 (s c : Int) : Int := nib1 (nib1 (bits .xor .u32 s c))
def sumG (l : List Int) : Int := l.foldl sum1 4294967295
def sumI (l : List Int) : Int := bits .xor .u32 IntKind.u32.max (sumG l)
theorem u32_range (x : Int) : 0 ≤ IntKind.u32.wrap x ∧ IntKind.u32.wrap x < 4294967296 := by
  have := IntKind.wrap_u32 x
  omega
theorem xor_range (x y : Int) : 0 ≤ bits .xor .u32 x y ∧ bits .xor .u32 x y < 4294967296 := u32_range _
theorem nib1_range (s : Int) : 0 ≤ nib1 s ∧ nib1 s < 4294967296 := xor_range _ _
theorem sumI_range (l : List Int) : 0 ≤ sumI l ∧ sumI l < 4294967296 := u32_range _
theorem u32_and15 (x : Int) (h0 : 0 ≤ x) (h1 : x < 4294967296) : bits .and .u32 x 15 = x % 16 := bits_mask .u32 32 (by decide) wraps_u32 4 (by decide) x h0 h1
set_option maxRecDepth 100000 in
set_option maxHeartbeats 8000000 in
theorem sum_calls (A : Option Addr) (c : Nat) (l : List Int) (w : World) (hC : Kd.C (Kd.int .u8) w A l.length l) (hu : ∀ x ∈ l, 0 ≤ x ∧ x ≤ 255) (hN : Nib w) (hl : l.length ≤ 1000000000) :
    Calls Tryz.prog 45 #[.slice A l.length c] w fun e w' => e = .returned (.int .u32 (sumI l)) ∧ w' = w := by
  have HC := Aside0.mk hC
  have HN := Aside0.mk hN
  have HU := Aside0.mk hu
  clear hC hN hu
  go_enter Tryz.func45, Tryz.ntmps45
  go_wp2_with fail
  go_loopw [3, 5, 8, 9, 10, 11, 12, 13, 14, 15, 16, 17, 18, 19, 20, 21, 22, 23, 24, 25, 26] (fun v3 _ v8 _ _ _ _ _ _ _ _ _ _ _ _ _ _ _ _ _ _ wr => ∃ j : Nat, j ≤ l.length ∧ v3 = .int .u32 (sumG (l.take j)) ∧ v8 = .int .i64 j ∧ wr = w) (fun _ _ v8 _ _ _ _ _ _ _ _ _ _ _ _ _ _ _ _ _ _ _ => l.length - (intOf v8).toNat)
  case atStart => exact ⟨0, Nat.zero_le _, rfl, rfl, rfl⟩
  case round =>
    obtain ⟨j, hj, rfl, rfl, rfl⟩ := hrel
    by_cases hlt : j < l.length
    · obtain ⟨ad, rfl, hcell⟩ := Kd.at_int HC.out (j : Int) (by omega) (by omega)
      have e1 : rd l (j : Int) = l[j] := by unfold rd; rw [Int.toNat_natCast, List.getD_eq_getElem?_getD, List.getElem?_eq_getElem hlt]; rfl
      rw [e1] at hcell
      simp only [Int.toNat_natCast] at hcell
      have hd := HU.out l[j] (List.getElem_mem hlt)
      have htk : sumG (l.take (j + 1)) = nib1 (nib1 (bits .xor .u32 (sumG (l.take j)) l[j])) := by
        unfold sumG
        rw [List.take_succ_eq_append_getElem hlt, List.foldl_append]
        rfl
      have HT := Aside0.mk htk
      clear htk
      have HD := Aside0.mk hd
      generalize hdd : l[j] = d at hcell HT HD
      clear hd hdd e1
      have hwr : IntKind.u32.wrap d = d := wraps_u32 d (by have := HD.out; omega) (by have := HD.out; omega)
      go_wp2_with fail
      go_loopw [3, 16, 17, 18, 19, 20, 21, 22, 23, 24, 25] (fun v3 v16 _ _ _ _ _ _ _ _ _ wr2 => ∃ (i : Nat) (s : Int), i ≤ 2 ∧ 0 ≤ s ∧ s < 4294967296 ∧ v3 = .int .u32 s ∧ v16 = .int .i64 i ∧ wr2 = wr ∧ (if i = 0 then nib1 (nib1 s) else if i = 1 then nib1 s else s) = sumG (l.take (j + 1))) (fun _ v16 _ _ _ _ _ _ _ _ _ _ => 2 - (intOf v16).toNat)
      case atStart => exact ⟨0, _, by omega, (xor_range _ _).1, (xor_range _ _).2, rfl, rfl, rfl, HT.out.symm⟩
      case round =>
        obtain ⟨i, s, hi, hs0, hs1, rfl, rfl, rfl, hT⟩ := hrel
        by_cases h2 : i < 2
        · have hnd := HN.out (s % 16).toNat (by omega)
          have hand := u32_and15 s hs0 hs1
          have hi15 : 0 ≤ s % 16 ∧ s % 16 < 16 := by omega
          have HT2 := Aside0.mk (show (if i + 1 = 0 then nib1 (nib1 (nib1 s)) else if i + 1 = 1 then nib1 (nib1 s) else nib1 s) = sumG (l.take (j + 1)) by
            have : i = 0 ∨ i = 1 := by omega
            rcases this with rfl | rfl
            · rw [← hT]; rfl
            · rw [← hT]; rfl)
          clear hT hwr
          go_wp2_with fail
          go_roundw
          case rel => exact ⟨i + 1, nib1 s, by omega, (nib1_range s).1, (nib1_range s).2, rfl, by simp, by first | rfl | trivial, HT2.out⟩
          case measure => simp [intOf]; omega
        · obtain rfl : i = 2 := by omega
          have HT2 := Aside0.mk (show s = sumG (l.take (j + 1)) by rw [← hT]; rfl)
          clear hT hwr h2 hi
          go_wp2_with fail
          go_roundw
          case rel => exact ⟨j + 1, by omega, by rw [HT2.out], by simp, by first | rfl | trivial⟩
          case measure => simp [intOf]; omega
    · obtain rfl : j = l.length := by omega
      rw [List.take_length]
      clear hlt hj
      go_wp2_with fail
      exact bodyPost_ret (v := .int .u32 (sumI l)) (by simp [results, Tryz.results45, go_sem, sumI]) rfl ⟨rfl, rfl⟩
end Go.Proofs.YtdooajmgfoobfaaGreatDoor.H
namespace Go.Proofs.YtdooajmgfoobfaaGreatDoor.H
attribute [local go_sem] Oper.semAt_some
open Go.RowKit Go.Shelf Go.Proofs.YtdooajmgfoobfaaGreatDoor.PA Go.Proofs.YtdooajmgfoobfaaGreatDoorW.PrintWords Go.Proofs.YtdooajmgfoobfaaGreatDoorW.PrintLast Go.Proofs.YtdooajmgfoobfaaGreatDoorW.PrintMore
set_option linter.unusedVariables false
set_option linter.unusedSimpArgs false
def textP (p : List Int) : List Int := numB p.length ++ p
def four (s : Int) : List Int := [s / 16777216 % 256, s / 65536 % 256, s / 256 % 256, s % 256]
def frameB (p : List Int) : List Int := four (sumI (textP p)) ++ textP p
theorem frameB_len (p : List Int) (h : p.length ≤ 200000) : (frameB p).length ≤ p.length + 15 := by
  unfold frameB textP
  have := numB_len (n := p.length) (by omega)
  simp only [List.length_append, four, List.length_cons, List.length_nil]
  omega
theorem hiB_u8 (n : Nat) : ∀ x ∈ hiB n, 0 ≤ x ∧ x ≤ 255 := by
  induction n using Nat.strongRecOn with
  | _ n ih =>
    by_cases h : n = 0
    · subst h
      simp [hiB_zero]
    · rw [hiB_pos h]
      intro x hx
      rcases List.mem_append.1 hx with hx | hx
      · exact ih (n / 128) (by omega) x hx
      · have := List.mem_singleton.1 hx
        omega
theorem numB_u8 (n : Nat) : ∀ x ∈ numB n, 0 ≤ x ∧ x ≤ 255 := by
  intro x hx
  unfold numB at hx
  rcases List.mem_append.1 hx with hx | hx
  · exact hiB_u8 _ x hx
  · have := List.mem_singleton.1 hx
    omega
theorem textP_u8 {p : List Int} (hu : ∀ x ∈ p, 0 ≤ x ∧ x ≤ 255) : ∀ x ∈ textP p, 0 ≤ x ∧ x ≤ 255 := by
  intro x hx
  unfold textP at hx
  rcases List.mem_append.1 hx with hx | hx
  · exact numB_u8 _ x hx
  · exact hu x hx
theorem four_u8 (s : Int) : ∀ x ∈ four s, 0 ≤ x ∧ x ≤ 255 := by
  intro x hx
  simp only [four, List.mem_cons, List.not_mem_nil, or_false] at hx
  rcases hx with rfl | rfl | rfl | rfl <;> omega
theorem frameB_u8 {p : List Int} (hu : ∀ x ∈ p, 0 ≤ x ∧ x ≤ 255) : ∀ x ∈ frameB p, 0 ≤ x ∧ x ≤ 255 := by
  intro x hx
  unfold frameB at hx
  rcases List.mem_append.1 hx with hx | hx
  · exact four_u8 _ x hx
  · exact textP_u8 hu x hx
theorem or4 (a b c d : Int) (a0 : 0 ≤ a) (a1 : a < 256) (b0 : 0 ≤ b) (b1 : b < 256) (c0 : 0 ≤ c) (c1 : c < 256) (d0 : 0 ≤ d) (d1 : d < 256) :
    bits .or .u32 (bits .or .u32 (bits .or .u32 (a % 4294967296 * 16777216 % 4294967296) (b % 4294967296 * 65536 % 4294967296)) (c % 4294967296 * 256 % 4294967296)) (d % 4294967296) = a * 16777216 + b * 65536 + c * 256 + d := by
  rw [show a % 4294967296 * 16777216 % 4294967296 = a * 16777216 by omega, show b % 4294967296 * 65536 % 4294967296 = b * 65536 by omega, show c % 4294967296 * 256 % 4294967296 = c * 256 by omega, show d % 4294967296 = d by omega]
  rw [bits_join .u32 32 (by decide) wraps_u32 24 (a * 16777216) (b * 65536) (by omega) (by omega) (by omega) (by omega) (by omega) (by omega)]
  rw [bits_join .u32 32 (by decide) wraps_u32 16 (a * 16777216 + b * 65536) (c * 256) (by omega) (by omega) (by omega) (by omega) (by omega) (by omega)]
  rw [bits_join .u32 32 (by decide) wraps_u32 8 (a * 16777216 + b * 65536 + c * 256) d (by omega) (by omega) (by omega) (by omega) (by omega) (by omega)]
theorem told_four (s : Int) (h0 : 0 ≤ s) (h1 : s < 4294967296) (r : List Int) : link_told.f (four s ++ r) = some s := by
  unfold link_told.f four
  have hl : (([s / 16777216 % 256, s / 65536 % 256, s / 256 % 256, s % 256] ++ r).length : Int) = 4 + r.length := by
    simp
    omega
  rw [hl, if_pos (by omega), if_pos (by omega), if_pos (by omega), if_pos (by omega)]
  simp only [rd, List.cons_append, List.nil_append, Int.toNat_zero, List.getD_cons_zero, Int.reduceToNat, List.getD_cons_succ]
  exact congrArg some ((or4 _ _ _ _ (by omega) (by omega) (by omega) (by omega) (by omega) (by omega) (by omega) (by omega)).trans (by omega))
theorem bytesOf_str {xs : List Int} (h : ∀ x ∈ xs, 0 ≤ x ∧ x ≤ 255) : bytesOf (strOfNums xs) = xs := by
  unfold bytesOf
  rw [strOfNums_data, List.map_map]
  conv => rhs; rw [← List.map_id xs]
  refine List.map_congr_left fun x hx => ?_
  have := h x hx
  simp only [Function.comp, id]
  have e : (UInt8.ofNat x.toNat).toNat = x.toNat := by
    rw [UInt8.toNat_ofNat']
    exact Nat.mod_eq_of_lt (by omega)
  rw [e]
  omega
theorem textB_str {p : List Int} (hu : ∀ x ∈ p, 0 ≤ x ∧ x ≤ 255) : textB (strOfNums p) = textP p := by
  unfold textB textP
  rw [bytesOf_str hu, ← bytesOf_length, bytesOf_str hu]
theorem own4 (W : World) (base : Nat) (s : Int) (h : base ≤ W.heap.size) : Kd.R (Kd.int .u8) 5 (W.alloc (.cells #[.int .u8 (s / 16777216 % 256), .int .u8 (s / 65536 % 256), .int .u8 (s / 256 % 256), .int .u8 (s % 256)] 5)) base (fun _ => True) (.slice (some ⟨W.heap.size, 0, none⟩) 4 4) (four s) :=
  Kd.R_of_own (by simpa [encs, nums, four] using own_lit W base 5 .u8 (four s) h (by simp [four])) (fun _ _ => trivial)
structure FrameOut (p : List Int) (w : World) (e : Ending) (w' : World) : Prop where
  out : ∃ v, e = .returned (.tuple #[v, .int .i64 0]) ∧ Kd.R (Kd.int .u8) 5 w' w.heap.size (fun _ => True) v (frameB p)
  hb : Below w.heap.size w w'
set_option maxRecDepth 100000 in
set_option maxHeartbeats 8000000 in
theorem Frame_calls (A : Option Addr) (c : Nat) (p : List Int) (w : World) (hC : Kd.C (Kd.int .u8) w A p.length p) (hu : ∀ x ∈ p, 0 ≤ x ∧ x ≤ 255) (hl : p.length ≤ 200000) (hN : Nib w) (hg : 1 < w.heap.size) :
    Calls Tryz.prog 22 #[.slice A p.length c] w (FrameOut p w) := by
  have hB0 : Below w.heap.size w (w.alloc (.cells #[.slice none 0 0] 70)) := (Below.refl _ w).alloc (Nat.le_refl _) _
  have HB0 := Aside0.mk hB0
  have hcv := C_str (c := c) rfl hC _ hB0
  have HCS := Aside0.mk (show CS w w.heap.size [] (w.alloc (.cells #[.slice none 0 0] 70)) from ⟨hB0, Nat.le_refl _, _, heap_alloc_new _ _, Kd.R_nil _ _ _ _ _⟩)
  have hct := ctext_calls w w.heap.size [] (strOfNums p) (by rw [← bytesOf_length, bytesOf_str hu]; simp; omega) _ HCS.out
  rw [List.nil_append, textB_str hu] at hct
  have htl : (textP p).length ≤ 200011 := by
    have := numB_len (n := p.length) (by omega)
    unfold textP
    rw [List.length_append]
    omega
  have hu2 := textP_u8 hu
  have hfr : frameB p = four (sumI (textP p)) ++ textP p := rfl
  have hsr := sumI_range (textP p)
  obtain ⟨q, hq⟩ : ∃ q, p.length = q := ⟨_, rfl⟩
  rw [hq] at hcv hl ⊢
  have hq2 : decide ((q : Int) > 200000) = false := decide_eq_false (by omega)
  generalize textP p = T at hct htl hu2 hfr hsr
  have hcb := fun W (hW : CS w w.heap.size T W) => cbytes_calls w w.heap.size T (by omega) W hW
  have hsum := fun A c W hC hN => sum_calls A c T W hC hu2 hN (by omega)
  obtain ⟨n, hn⟩ : ∃ n, T.length = n := ⟨_, rfl⟩
  have hcb2 : ∀ W, CS w w.heap.size T W → Calls Tryz.prog 28 #[.pointer (some ⟨w.heap.size, 0, none⟩)] W fun e w' => ∃ A' c', e = .returned (.slice A' n c') ∧ Kd.C (Kd.int .u8) w' A' n T ∧ Below W.heap.size W w' := by
    intro W hW
    refine (hcb W hW).mono ?_
    rintro e w' ⟨⟨A', n', c', rfl, h1, h2, h3⟩, hb⟩
    rw [hn] at h1 h3
    subst h1
    exact ⟨A', c', rfl, h3, hb⟩
  rw [hn] at hsum htl
  have HN := Aside0.mk hN
  have HG := Aside0.mk hg
  have HFR := Aside0.mk hfr
  have HSR := Aside0.mk hsr
  have HLN := Aside0.mk (show ((four (sumI T)).length + n) * 1 ≤ 140737488355328 by simp [four]; omega)
  clear hC hu hq hB0 hN hg hu2 hfr hsr hl hcb hn
  generalize sumI T = s at hsum HFR HSR HLN
  go_enter Tryz.func22, Tryz.ntmps22
  go_wp2_with (first
    | (go_at_call 44; refine hct.mono ?_; rintro e w1 ⟨rfl, hr, hp⟩; have HR := Aside0.mk hr; clear hr hp hct)
    | (go_at_call 28; refine (hcb2 _ HR.out).mono ?_; rintro e w2 ⟨A', c', rfl, hC2, hb2⟩; have HC2 := Aside0.mk hC2; have HB2 := Aside0.mk (HR.out.1.trans (hb2.mono HR.out.1.size)); clear hC2 hb2 hcb2)
    | (go_at_call 45; refine (hsum _ _ _ HC2.out (HN.out.keep (HB2.out.block _ HG.out))).mono ?_; rintro e w3 ⟨rfl, rfl⟩; clear hsum; have HW := Aside0.mk (own4 _ w.heap.size s HB2.out.size); have HWB := Aside0.mk (HB2.out.alloc HB2.out.size (.cells #[.int .u8 (s / 16777216 % 256), .int .u8 (s / 65536 % 256), .int .u8 (s / 256 % 256), .int .u8 (s % 256)] 5)); have HWC := Aside0.mk (show ReadsRow (fun x cs => cs = [.int .u8 x]) (Kd.int .u8).sz (_ : World) A' n T from Kd.C_below HC2.out ((Below.refl _ _).alloc (Nat.le_refl _) (.cells #[.int .u8 (s / 16777216 % 256), .int .u8 (s / 65536 % 256), .int .u8 (s / 256 % 256), .int .u8 (s % 256)] 5))))
    | (at_builtin; refine Kd.R_append_rows (Rr := fun x cs => cs = [.int .u8 x]) (Kd.int .u8) (w0 := w) w.heap.size rfl (.tmp 27) (.tmp 28) 22 5 (.int .u8 0) 1 rfl Tryz.underlying22 info5 rfl (by decide) (by omega) _ (four s) T A' n c' (fun _ => True) (fun _ => False) rfl rfl HW.out HWC.out (fun _ _ h => h) (fun _ hk => hk.elim) (fun _ _ => trivial) HWB.out HWB.out.size HLN.out ?_; intro v1 w4 hr hb hg hat; have HR1 := Aside0.mk hr; have HB4 := Aside0.mk hb; clear hr hb hg hat))
  exact bodyPost_ret (v := .tuple #[v1, .int .i64 0]) (by simp [results, Tryz.results22, go_sem]) rfl ⟨⟨v1, rfl, by rw [HFR.out]; exact HR1.out⟩, HB4.out⟩
end Go.Proofs.YtdooajmgfoobfaaGreatDoor.H
namespace Go.Proofs.YtdooajmgfoobfaaGreatDoor.H
open Go.RowKit Go.Shelf Go.Proofs.YtdooajmgfoobfaaGreatDoor.PA Go.Proofs.YtdooajmgfoobfaaGreatDoorW.PrintWords Go.Proofs.YtdooajmgfoobfaaGreatDoorW.PrintLast Go.Proofs.YtdooajmgfoobfaaGreatDoorW.PrintMore
set_option linter.unusedVariables false
set_option linter.unusedSimpArgs false
theorem numT_hiB (r : List Int) : ∀ (n : Nat), n < 128 ^ 8 → numT 0 0 (hiB n ++ r) = numT (hiB n).length n r := by
  intro n
  induction n using Nat.strongRecOn generalizing r with
  | _ n ih =>
    intro hn
    by_cases h : n = 0
    · subst h; simp [hiB_zero]
    · have hl := hiB_len 8 n hn
      rw [hiB_pos h] at hl ⊢
      rw [List.append_assoc, ih (n / 128) (by omega) _ (by omega)]
      rw [List.length_append, List.length_singleton] at hl ⊢
      rw [List.singleton_append, numT, if_neg, if_neg (by omega)]
      · congr 1
        omega
      · rintro (⟨h1, h2⟩ | h1)
        · have h3 : n / 128 = 0 := by
            by_cases h4 : n / 128 = 0
            · exact h4
            · rw [hiB_pos h4, List.length_append, List.length_singleton] at h1
              omega
          omega
        · omega
theorem numT_numB (r : List Int) (n : Nat) (hn : n < 128 ^ 8) : numT 0 0 (numB n ++ r) = .got n r := by
  unfold numB
  have hl := hiB_len 7 (n / 128) (by omega)
  rw [List.append_assoc, numT_hiB _ (n / 128) (by omega), List.singleton_append, numT, if_neg, if_pos (by omega)]
  · congr 1
    omega
  · rintro (⟨h1, h2⟩ | h1)
    · omega
    · omega
theorem hiB_take (k : Nat) : ∀ (n : Nat), ∃ m, m ≤ n ∧ (hiB n).take k = hiB m := by
  intro n
  induction n using Nat.strongRecOn with
  | _ n ih =>
    by_cases h : n = 0
    · subst h; exact ⟨0, Nat.le_refl _, by simp [hiB_zero]⟩
    · by_cases hk : (hiB n).length ≤ k
      · exact ⟨n, Nat.le_refl _, List.take_of_length_le hk⟩
      · rw [hiB_pos h] at hk ⊢
        rw [List.length_append, List.length_singleton] at hk
        rw [List.take_append_of_le_length (by omega)]
        obtain ⟨m, h1, h2⟩ := ih (n / 128) (by omega)
        exact ⟨m, by omega, h2⟩
theorem numT_cut (k n : Nat) (hn : n < 128 ^ 8) (hk : k < (numB n).length) : numT 0 0 ((numB n).take k) = .bad 17 := by
  unfold numB at hk ⊢
  rw [List.length_append, List.length_singleton] at hk
  rw [List.take_append_of_le_length (by omega)]
  obtain ⟨m, h1, h2⟩ := hiB_take k (n / 128)
  rw [h2, ← List.append_nil (hiB m), numT_hiB [] m (by omega), numT]
theorem text_got (p r : List Int) (most : Int) (hl : p.length ≤ 200000) (hm : p.length ≤ most) : Rs.text ⟨textP p ++ r, 0⟩ most = (p, ⟨r, 0⟩) := by
  have h1 : Rs.num ⟨textP p ++ r, 0⟩ = ((p.length : Int), ⟨p ++ r, 0⟩) := by
    refine num_got ?_
    unfold textP
    rw [List.append_assoc, numT_numB _ _ (by omega)]
  have h2 : Rs.up ⟨textP p ++ r, 0⟩ most = ((p.length : Int), ⟨p ++ r, 0⟩) := by
    unfold Rs.up
    rw [h1]
    simp only
    rw [if_pos trivial, if_neg (by omega)]
  unfold Rs.text
  rw [h2]
  unfold Rs.bytes
  simp only
  rw [if_neg (by simp), if_neg (by rw [List.length_append]; omega), Int.toNat_natCast, List.take_left, List.drop_left]
theorem text_cut (p : List Int) (most : Int) (k : Nat) (hl : p.length ≤ 200000) (hm : p.length ≤ most) (hk : k < (textP p).length) : (Rs.text ⟨(textP p).take k, 0⟩ most).2.f = 17 := by
  unfold textP at hk ⊢
  by_cases h : k < (numB p.length).length
  · rw [List.take_append_of_le_length (by omega)]
    have h1 := num_bad (numT_cut k p.length (by omega) h)
    unfold Rs.text Rs.up
    rw [h1]
    simp [Rs.bytes]
  · rw [List.take_append, List.take_of_length_le (by omega)]
    rw [List.length_append] at hk
    have h1 : Rs.num ⟨numB p.length ++ p.take (k - (numB p.length).length), 0⟩ = ((p.length : Int), ⟨p.take (k - (numB p.length).length), 0⟩) := num_got (numT_numB _ _ (by omega))
    have h2 : Rs.up ⟨numB p.length ++ p.take (k - (numB p.length).length), 0⟩ most = ((p.length : Int), ⟨p.take (k - (numB p.length).length), 0⟩) := by
      unfold Rs.up
      rw [h1]
      simp only
      rw [if_pos trivial, if_neg (by omega)]
    unfold Rs.text
    rw [h2]
    unfold Rs.bytes
    simp only
    rw [if_neg (by simp), if_pos (by rw [List.length_take]; omega)]
/-- Bytes that end within a frame. -/
def Torn (t : List Int) : Prop := t.length < 4 ∨ (Rs.text ⟨t.drop 4, 0⟩ 200000).2.f = 17
theorem torn_nil : Torn [] := .inl (by simp)
theorem torn_take (p : List Int) (hl : p.length ≤ 200000) (k : Nat) (hk : k < (frameB p).length) : Torn ((frameB p).take k) := by
  by_cases h : k < 4
  · exact .inl (by rw [List.length_take]; omega)
  · refine .inr ?_
    have e : ((frameB p).take k).drop 4 = (textP p).take (k - 4) := by
      rw [List.drop_take]
      rfl
    rw [e]
    refine text_cut p 200000 (k - 4) hl (by omega) ?_
    unfold frameB at hk
    rw [List.length_append] at hk
    have : (four (sumI (textP p))).length = 4 := rfl
    omega
def framesB (l : List (List Int)) : List Int := l.flatMap frameB
theorem frameB_pos (p : List Int) : 5 ≤ (frameB p).length := by
  unfold frameB textP numB
  simp only [List.length_append, four, List.length_cons, List.length_nil]
  omega
theorem framesB_snoc (l : List (List Int)) (p : List Int) : framesB (l ++ [p]) = framesB l ++ frameB p := by simp [framesB]
theorem framesB_cons (l : List (List Int)) (p : List Int) : framesB (p :: l) = frameB p ++ framesB l := rfl
theorem framesB_append (l k : List (List Int)) : framesB (l ++ k) = framesB l ++ framesB k := by simp [framesB]
theorem framesB_len (l : List (List Int)) : l.length ≤ (framesB l).length := by
  induction l with
  | nil => simp [framesB]
  | cons p l ih =>
    rw [framesB_cons, List.length_append, List.length_cons]
    have := frameB_pos p
    omega
end Go.Proofs.YtdooajmgfoobfaaGreatDoor.H
namespace Go.Proofs.YtdooajmgfoobfaaGreatDoor.H
attribute [local go_sem] Oper.semAt_some
open Go.RowKit Go.Shelf Go.Proofs.YtdooajmgfoobfaaGreatDoor.PA Go.Proofs.YtdooajmgfoobfaaGreatDoorW.PrintWords Go.Proofs.YtdooajmgfoobfaaGreatDoorW.PrintLast Go.Proofs.YtdooajmgfoobfaaGreatDoorW.PrintMore
set_option linter.unusedVariables false
set_option linter.unusedSimpArgs false
theorem openR_calls (A : Option Addr) (c : Nat) (l : List Int) (w : World) (hC : Kd.C (Kd.int .u8) w A l.length l) (hc : l.length ≤ c) (hl : l.length ≤ 1000000000) (hu : ∀ x ∈ l, 0 ≤ x ∧ x ≤ 255) :
    Calls Tryz.prog 36 #[.slice A l.length c] w fun e w' => e = .returned (.pointer (some ⟨w.heap.size, 0, none⟩)) ∧ RX w w.heap.size ⟨l, 0⟩ w' := (open_calls A c l w hC hc hl hu).mono fun _ _ h => ⟨h.1, h.2.1⟩
structure TornOut (w : World) (e : Ending) (w' : World) : Prop where
  ret : e = .returned (.tuple #[.slice none 0 0, .int .i64 0, .int .i64 17])
  hb : Below w.heap.size w w'
set_option maxRecDepth 100000 in
set_option maxHeartbeats 8000000 in
theorem one_torn (A : Option Addr) (c : Nat) (b : List Int) (w : World) (hC : Kd.C (Kd.int .u8) w A b.length b) (hc : b.length ≤ c) (hl : b.length ≤ 1000000000) (hu : ∀ x ∈ b, 0 ≤ x ∧ x ≤ 255) (hT : Torn b) :
    Calls Tryz.prog 63 #[.slice A b.length c] w (TornOut w) := by
  by_cases h4 : b.length < 4
  · generalize b.length = n at h4
    have hb : decide ((n : Int) < 4) = true := decide_eq_true (by omega)
    clear hC hc hl hu hT h4
    go_enter Tryz.func63, Tryz.ntmps63
    go_wp2_with fail
    exact bodyPost_ret (v := .tuple #[.slice none 0 0, .int .i64 0, .int .i64 17]) (by simp [results, Tryz.results63, go_sem]) rfl ⟨rfl, Below.refl _ _⟩
  · have hf : (Rs.text ⟨b.drop 4, 0⟩ 200000).2.f = 17 := hT.resolve_left h4
    have hb : decide ((b.length : Int) < 4) = false := decide_eq_false (by omega)
    obtain ⟨A', hcut, hA'⟩ := cut_from A b.length c 4 4 rfl (by omega)
    have hC' := hA' w b hc hC
    have hl2 : (b.drop 4).length = b.length - 4 := List.length_drop
    have hop := openR_calls A' (c - 4) (b.drop 4) w (by rw [hl2]; exact hC') (by omega) (by omega) (fun x hx => hu x (List.mem_of_mem_drop hx))
    have htx := fun W (hW : RX w w.heap.size ⟨b.drop 4, 0⟩ W) => text_calls w w.heap.size ⟨b.drop 4, 0⟩ 200000 (by omega) W hW
    have hfa := fun W (hW : RX w w.heap.size (Rs.text ⟨b.drop 4, 0⟩ 200000).2 W) => fail_calls w w.heap.size _ W hW
    rw [hl2] at hop
    rw [hf] at hfa
    generalize b.length = n at hb hcut hop
    clear hC hA' hC' hc hl hu hT h4 hl2 hf
    go_enter Tryz.func63, Tryz.ntmps63
    go_wp2_with (first
      | (go_at_call 36; refine hop.mono ?_; rintro e w1 ⟨rfl, hr⟩; have HR := Aside0.mk hr; clear hr hop)
      | (go_at_call 80; refine (htx _ HR.out).mono ?_; rintro e w2 ⟨rfl, hr, _⟩; have HR2 := Aside0.mk hr; clear hr htx)
      | (go_at_call 38; refine (hfa _ HR2.out).mono ?_; rintro e w3 ⟨rfl, rfl⟩; clear hfa))
    exact bodyPost_ret (v := .tuple #[.slice none 0 0, .int .i64 0, .int .i64 17]) (by simp [results, Tryz.results63, go_sem]) rfl ⟨rfl, HR2.out.1⟩
structure OneOut (p : List Int) (w : World) (e : Ending) (w' : World) : Prop where
  out : ∃ ad c, e = .returned (.tuple #[.slice (some ad) p.length c, .int .i64 (frameB p).length, .int .i64 0]) ∧ p.length ≤ c ∧ Kd.C (Kd.int .u8) w' (some ad) p.length p
  hb : Below w.heap.size w w'
set_option maxRecDepth 100000 in
set_option maxHeartbeats 8000000 in
theorem one_got (A : Option Addr) (c : Nat) (p r : List Int) (w : World) (hC : Kd.C (Kd.int .u8) w A (frameB p ++ r).length (frameB p ++ r)) (hc : (frameB p ++ r).length ≤ c) (hl : (frameB p ++ r).length ≤ 1000000000) (hu : ∀ x ∈ frameB p ++ r, 0 ≤ x ∧ x ≤ 255) (hp : p.length ≤ 200000) (hN : Nib w) (hg : 1 < w.heap.size) :
    Calls Tryz.prog 63 #[.slice A (frameB p ++ r).length c] w (OneOut p w) := by
  have hup : ∀ x ∈ p, 0 ≤ x ∧ x ≤ 255 := fun x hx => hu x (by simp [frameB, textP, hx])
  have h5 := frameB_pos p
  have hlen : (frameB p ++ r).length = (frameB p).length + r.length := List.length_append
  obtain ⟨A', hcut, hA'⟩ := cut_from A (frameB p ++ r).length c 4 4 rfl (by omega)
  have hC' := hA' w _ hc hC
  have hd4 : (frameB p ++ r).drop 4 = textP p ++ r := rfl
  have hl2 : (textP p ++ r).length = (frameB p ++ r).length - 4 := by rw [← hd4]; exact List.length_drop
  have hop := openR_calls A' (c - 4) (textP p ++ r) w (by rw [hl2, ← hd4]; exact hC') (by omega) (by omega) (fun x hx => hu x (List.mem_of_mem_drop (by rw [hd4]; exact hx)))
  have hfa := fun W (hW : RX w w.heap.size ⟨r, 0⟩ W) => fail_calls w w.heap.size _ W hW
  have hlf := fun W (hW : RX w w.heap.size ⟨r, 0⟩ W) => left_calls w w.heap.size _ W hW
  have htg := text_got p r 200000 hp (by omega)
  have htx : ∀ W, RX w w.heap.size ⟨textP p ++ r, 0⟩ W → Calls Tryz.prog 80 #[.pointer (some ⟨w.heap.size, 0, none⟩), .int .i64 200000] W fun e w' => e = .returned (.string (strOfNums p)) ∧ RX w w.heap.size ⟨r, 0⟩ w' := by
    intro W hW
    refine (text_calls w w.heap.size ⟨textP p ++ r, 0⟩ 200000 (by omega) W hW).mono ?_
    rintro e w' ⟨h1, h2, _⟩
    rw [htg] at h1 h2
    exact ⟨h1, h2⟩
  obtain ⟨i, hi, hz⟩ := infoB
  obtain ⟨A2, hmid, hmr, hmc⟩ := print_mid_int (P := Tryz.prog) (k := .u8) 22 5 Tryz.underlying22 hi hz A c (frameB p ++ r) 4 ((frameB p).length : Int) (by omega) (by omega) (by omega) hc
  have hC2 := hmr w (reads_of_C hC)
  have htk : ((frameB p ++ r).take ((frameB p).length : Int).toNat).drop (4 : Int).toNat = textP p := by
    rw [Int.toNat_natCast, List.take_left]
    rfl
  rw [htk] at hmid hC2
  have hsum := fun W hN (hb : Below w.heap.size w W) => sum_calls A2 (c - 4) (textP p) W (C_of_reads (reads_of_C (Kd.C_below (C_of_reads hC2) hb))) (textP_u8 hup) hN (by
    have : (frameB p).length = 4 + (textP p).length := by unfold frameB; rw [List.length_append]; rfl
    omega)
  have htold := fun W (hb : Below w.heap.size w W) => link_told.calls A c (frameB p ++ r) (sumI (textP p)) W (Kd.C_below hC hb) hc (by
    unfold frameB
    rw [List.append_assoc]
    exact told_four _ (sumI_range _).1 (sumI_range _).2 _)
  have hsz : (strOfNums p).size = p.length := by rw [← bytesOf_length, bytesOf_str hup]
  have kb := fun W => print_bytes (P := Tryz.prog) 9 22 5 Tryz.underlying9 Tryz.underlying22 Tryz.underlying5 (strOfNums p) W
  have FIN := Aside0.mk (fun W (hb : Below w.heap.size w W) => show OneOut p w (.returned (.tuple #[.slice (some ⟨W.heap.size, 0, none⟩) p.length (grownCap W p.length 0 5), .int .i64 (frameB p).length, .int .i64 0])) (Lib.bytesWorld W 5 (strOfNums p)) from by
    have hr := bytes_reads W 5 (strOfNums p) (by omega)
    rw [hsz, bytesOf_str hup] at hr
    refine ⟨⟨_, _, rfl, ?_, C_of_reads hr⟩, bytes_below hb hb.size _ _⟩
    have := grownCap_ge W p.length 0 5
    omega)
  rw [hl2] at hop
  simp only [show (4 : Int).toNat = 4 from rfl] at hmid
  rw [hsz] at kb
  have hsub : wrap64 (((frameB p ++ r).length : Int) - (r.length : Int)) = (frameB p).length := by rw [hlen, wrap_in (by omega) (by omega)]; omega
  have hb4 : decide (((frameB p ++ r).length : Int) < 4) = false := decide_eq_false (by omega)
  generalize (frameB p ++ r).length = n at hb4 hcut hop hmid htold hsub
  generalize (frameB p).length = q at hmid hsub FIN
  generalize r.length = rl at hlf hsub
  generalize p.length = pl at kb FIN
  generalize sumI (textP p) = s at hsum htold
  generalize (textP p).length = tl at hsum hmid
  have HN := Aside0.mk hN
  have HG := Aside0.mk hg
  clear hC hA' hC' hc hl hu hl2 hup h5 hlen hp hN hg hd4 htg hi hz hmr hmc hC2 htk hsz
  go_enter Tryz.func63, Tryz.ntmps63
  go_wp2_with (first
    | (go_at_call 36; refine hop.mono ?_; rintro e w1 ⟨rfl, hr⟩; have HR := Aside0.mk hr; clear hr hop)
    | (go_at_call 80; refine (htx _ HR.out).mono ?_; rintro e w2 ⟨rfl, hr⟩; have HR2 := Aside0.mk hr; clear hr htx)
    | (go_at_call 38; refine (hfa _ HR2.out).mono ?_; rintro e w3 ⟨rfl, rfl⟩; clear hfa)
    | (go_at_call 39; refine (hlf _ HR2.out).mono ?_; rintro e w3 ⟨rfl, rfl⟩; clear hlf)
    | (go_at_call 45; refine (hsum _ (HN.out.keep (HR2.out.1.block _ HG.out)) HR2.out.1).mono ?_; rintro e w3 ⟨rfl, rfl⟩; clear hsum)
    | (go_at_call 81; refine (htold _ HR2.out.1).mono ?_; rintro e w3 ⟨rfl, hd⟩; have HB3 := Aside0.mk (HR2.out.1.trans (hd.below.mono HR2.out.1.size)); clear hd htold))
  exact bodyPost_ret (v := .tuple #[.slice (some ⟨w3.heap.size, 0, none⟩) pl (grownCap w3 pl 0 5), .int .i64 q, .int .i64 0]) (by simp [results, Tryz.results63, go_sem]) rfl (FIN.out _ HB3.out)
end Go.Proofs.YtdooajmgfoobfaaGreatDoor.H
namespace Go.Proofs.YtdooajmgfoobfaaGreatDoor.H
attribute [local go_sem] Oper.semAt_some
open Go.RowKit Go.Shelf Go.Proofs.YtdooajmgfoobfaaGreatDoor.PA Go.Proofs.YtdooajmgfoobfaaGreatDoorW.PrintWords Go.Proofs.YtdooajmgfoobfaaGreatDoorW.PrintLast Go.Proofs.YtdooajmgfoobfaaGreatDoorW.PrintMore
set_option linter.unusedVariables false
set_option linter.unusedSimpArgs false
/-- A frame that is handed over: the place behind it, its payload. -/
structure FrX where
  at_ : Int
  ad : Addr
  c : Nat
  p : List Int
def frA (x : FrX) : Array Value := #[.int .i64 x.at_, .slice (some x.ad) x.p.length x.c]
def frPs (l : List FrX) : List (List Int) := l.map (·.p)
theorem frPs_snoc (l : List FrX) (x : FrX) : frPs (l ++ [x]) = frPs l ++ [x.p] := by simp [frPs]
structure FrRel (ps : List (List Int)) (pre : List FrX) (x : FrX) (W : World) : Prop where
  pf : frPs pre ++ [x.p] <+: ps
  at_ : x.at_ = (framesB (frPs pre ++ [x.p])).length
  le : x.p.length ≤ x.c
  rd : Kd.C (Kd.int .u8) W (some x.ad) x.p.length x.p
def KpF (b0 bs : Nat) (A B : World) : Prop := Below b0 A B ∧ B.heap[bs]? = A.heap[bs]?
theorem grown_of_below {W W' : World} (h : Below W.heap.size W W') : W.grownBy W' none := ⟨h.os, h.tape, h.output, h.size, fun i hi _ => h.block i hi⟩
theorem ms_lt (tot a q : Nat) (h : tot - (a + q) < tot - a) (hw : wrap64 ((a : Int) + (q : Int)) = ((a + q : Nat) : Int)) : tot - (intOf (.int .i64 (wrap64 ((a : Int) + (q : Int))))).toNat < tot - (intOf (.int .i64 (a : Int))).toNat := by
  have e : (intOf (.int .i64 (wrap64 ((a : Int) + (q : Int))))).toNat = a + q := by
    rw [hw]
    rfl
  have e2 : (intOf (.int .i64 (a : Int))).toNat = a := rfl
  rw [e, e2]
  exact h
set_option maxRecDepth 100000 in
set_option maxHeartbeats 8000000 in
theorem frames1_in (n lp bs : Nat) (hn : 1 ≤ n) (A : Option Addr) (c : Nat) (ps : List (List Int)) (t : List Int) (w0 V : World) (J Jx : List FrX → World → Prop) (hJ : OwnFrom V.heap.size J)
    (hY : ∀ pre x W1, J pre W1 → FrRel ps pre x W1 → pre.length < ps.length → YieldAt Fence.wide (n - 1) Tryz.prog lp (frA x) W1 fun e W' => (e = .returned (.bool true) ∧ J (pre ++ [x]) W' ∧ KpF w0.heap.size bs W1 W') ∨ (e = .returned (.bool false) ∧ Jx (pre ++ [x]) W'))
    (hw : Below w0.heap.size w0 V) (hb : V.heap[bs]? = some (.cells #[.slice A (framesB ps ++ t).length c] 22 (0, 0))) (hC : Kd.C (Kd.int .u8) w0 A (framesB ps ++ t).length (framesB ps ++ t)) (hc : (framesB ps ++ t).length ≤ c) (hl : (framesB ps ++ t).length ≤ 1000000000)
    (hu : ∀ x ∈ framesB ps ++ t, 0 ≤ x ∧ x ≤ 255) (hps : ∀ p ∈ ps, p.length ≤ 200000) (hT : Torn t) (hN : Nib w0) (hg : 1 < w0.heap.size) (h0 : J [] V) :
    CallsIn Fence.wide n Tryz.prog 79 #[.func (.yield lp) #[] #[], .pointer (some ⟨bs, 0, none⟩)] V fun e W' => (∃ v, e = .returned v) ∧
      ((∃ xs, frPs xs = ps ∧ J xs W') ∨ ∃ pre, frPs pre <+: ps ∧ Jx pre W') := by
  refine callsIn_of_wp Tryz.func79 rfl trivial ?_ rfl
  simp only [Tryz.ntmps79, List.size_toArray, List.length_cons, List.length_nil, Nat.reduceAdd, Nat.reduceSub, Array.replicate_succ, Array.replicate_zero, List.push_toArray, List.append_toArray, List.nil_append, List.cons_append]
  have HY := Aside0.mk hY
  have HJ := Aside0.mk hJ
  have HC := Aside0.mk hC
  have HU := Aside0.mk hu
  have HP := Aside0.mk hps
  have HT := Aside0.mk hT
  have HN := Aside0.mk hN
  have HG := Aside0.mk hg
  have HLC := Aside0.mk (And.intro hc hl)
  clear hY hJ hC hu hps hT hN hg hc hl
  obtain ⟨tot, htot⟩ : ∃ tot, (framesB ps ++ t).length = tot := ⟨_, rfl⟩
  have HTT := Aside0.mk htot
  rw [htot] at hb
  gi_wp2
  gi_loopw [3] (fun r3 wr => ∃ (pre : List FrX), r3 = .int .i64 (framesB (frPs pre)).length ∧ J pre wr ∧ frPs pre <+: ps ∧ Below w0.heap.size w0 wr ∧ V.heap.size ≤ wr.heap.size ∧ wr.heap[bs]? = some (.cells #[.slice A tot c] 22 (0, 0)))
    (fun r3 _ => tot - (intOf r3).toNat)
  case atStart => exact ⟨[], rfl, h0, List.nil_prefix, hw, Nat.le_refl _, hb⟩
  case round =>
    obtain ⟨pre, rfl, hj, ⟨r, hr⟩, hw1, hvs, hb1⟩ := hrel
    have d0 := blk_cell hb1 0
    have hsplit : framesB ps ++ t = framesB (frPs pre) ++ (framesB r ++ t) := by rw [← hr, framesB_append, List.append_assoc]
    have htl : tot = (framesB (frPs pre)).length + (framesB r ++ t).length := by rw [← htot, hsplit, List.length_append]
    have hlc := HLC.out
    rw [htot] at hlc
    have hCW := Kd.C_below HC.out hw1
    rw [htot] at hCW
    obtain ⟨A1, hcut, hA1⟩ := cut_from A tot c (framesB (frPs pre)).length (framesB (frPs pre)).length rfl (by omega)
    have hC1 := hA1 wr _ hlc.1 hCW
    rw [hsplit, List.drop_left, show tot - (framesB (frPs pre)).length = (framesB r ++ t).length by omega] at hC1
    rw [show tot - (framesB (frPs pre)).length = (framesB r ++ t).length by omega] at hcut
    have hu1 : ∀ x ∈ framesB r ++ t, 0 ≤ x ∧ x ≤ 255 := fun x hx => HU.out x (by rw [hsplit]; exact List.mem_append_right _ hx)
    have HJP := Aside0.mk hj
    have HB := Aside0.mk hb1
    have HW := Aside0.mk hw1
    have HVS := Aside0.mk hvs
    have HR := Aside0.mk hr
    obtain ⟨a, ha⟩ : ∃ a, (framesB (frPs pre)).length = a := ⟨_, rfl⟩
    rw [ha] at htl hcut
    have HA := Aside0.mk ha
    rcases r with _ | ⟨p, r⟩
    · have hfp : frPs pre = ps := by rw [← hr, List.append_nil]
      have HF := Aside0.mk hfp
      have hz : (framesB [] ++ t).length = t.length := rfl
      rw [hz] at htl hcut hC1
      by_cases hlt : a < tot
      · have hone := one_torn A1 (c - a) (framesB [] ++ t) wr hC1 (by rw [hz]; omega) (by rw [hz]; omega) hu1 HT.out
        rw [hz] at hone
        rw [ha]
        clear hj hb1 hw1 hvs hr hsplit htl hlc hCW hA1 hC1 hu1 hfp hz ha htot
        gi_wp2
        refine ⟨trivial, ?_⟩
        refine (callsIn_wide.2 hone).mono ?_
        rintro e w2 ⟨rfl, hb2⟩
        have HJ2 := Aside0.mk (HJ.out _ _ _ none HJP.out (grown_of_below hb2) (by nofun))
        clear hb2 hone
        gi_wp2
        refine ⟨by nofun, ?_⟩
        gi_wp2
        exact bodyPost_ret (results_none rfl _ _ _) rfl ⟨⟨_, rfl⟩, .inl ⟨pre, HF.out, HJ2.out⟩⟩
      · rw [ha]
        clear hj hb1 hw1 hvs hr htot hsplit htl hlc hCW hA1 hC1 hu1 hfp hcut hz ha
        gi_wp2
        exact bodyPost_end (results_none rfl _ _ _) rfl ⟨⟨_, rfl⟩, .inl ⟨pre, HF.out, HJP.out⟩⟩
    · have hsp : framesB (p :: r) ++ t = frameB p ++ (framesB r ++ t) := by rw [framesB_cons, List.append_assoc]
      rw [hsp] at hcut hC1 hu1 htl
      have hp0 := frameB_pos p
      have hla : (frameB p ++ (framesB r ++ t)).length = (frameB p).length + (framesB r ++ t).length := List.length_append
      have hlt : a < tot := by omega
      have hp2 : p.length ≤ 200000 := HP.out p (by rw [← hr]; simp)
      have hone := one_got A1 (c - a) p (framesB r ++ t) wr hC1 (by omega) (by omega) hu1 hp2 (HN.out.keep (hw1.block _ HG.out)) (by have := hw1.size; have := HG.out; omega)
      have HPF := Aside0.mk (show frPs pre ++ [p] <+: ps from ⟨r, by rw [List.append_assoc]; exact hr⟩)
      have HLN := Aside0.mk (show (framesB (frPs pre ++ [p])).length = a + (frameB p).length by rw [framesB_snoc, List.length_append, ha])
      have HNX := Aside0.mk (show pre.length < ps.length by
        have := congrArg List.length hr
        simp [frPs] at this
        omega)
      obtain ⟨q, hq⟩ : ∃ q, (frameB p).length = q := ⟨_, rfl⟩
      have hwr : wrap64 ((a : Int) + (q : Int)) = (a : Int) + q := wrap_in (by omega) (by omega)
      have hw0 : wrap64 ((a : Int) + (q : Int)) = ((a + q : Nat) : Int) := by rw [hwr]; omega
      have hone2 : Calls Tryz.prog 63 #[.slice A1 (frameB p ++ (framesB r ++ t)).length (c - a)] wr fun e w' => (∃ ad c', e = .returned (.tuple #[.slice (some ad) p.length c', .int .i64 q, .int .i64 0]) ∧ p.length ≤ c' ∧ Kd.C (Kd.int .u8) w' (some ad) p.length p) ∧ Below wr.heap.size wr w' := hone.mono fun e w' h => ⟨by rw [← hq]; exact h.out, h.hb⟩
      have HMS := Aside0.mk (show tot - (a + q) < tot - a by omega)
      rw [hq] at HLN
      rw [ha]
      clear hj hb1 hw1 hvs hr hsplit htl hlc hCW hA1 hC1 hu1 ha htot hsp hp0 hp2 hone hla hq
      generalize (frameB p ++ (framesB r ++ t)).length = tl at hcut hone2
      gi_wp2
      refine ⟨trivial, ?_⟩
      refine (callsIn_wide.2 hone2).mono ?_
      rintro e w2 ⟨⟨ad, c', rfl, hle, hC2⟩, hb2⟩
      obtain ⟨fn, tmps, assign, body, hy, hR⟩ := HY.out pre ⟨(a : Int) + q, ad, c', p⟩ w2 (HJ.out _ _ _ none HJP.out (grown_of_below hb2) (by nofun)) ⟨HPF.out, (show (a : Int) + q = ((framesB (frPs pre ++ [p])).length : Int) by rw [HLN.out]; omega), hle, hC2⟩ HNX.out
      have HRR := Aside0.mk hR
      have HB2 := Aside0.mk hb2
      clear hR hone2 hle hC2 hb2
      simp only [frA] at hy
      generalize p.length = pl at hy
      gi_wp2
      refine HRR.out.mono ?_
      rintro e W3 (⟨rfl, hj3, hk3⟩ | ⟨rfl, hj3⟩)
      · have HJ3 := Aside0.mk hj3
        have HW3 := Aside0.mk ((HW.out.trans (HB2.out.mono HW.out.size)).trans hk3.1)
        have HS3 := Aside0.mk (show V.heap.size ≤ W3.heap.size from Nat.le_trans HVS.out (Nat.le_trans HB2.out.size hk3.1.size))
        have HB3 := Aside0.mk ((hk3.2.trans (HB2.out.block _ (blk_lt HB.out))).trans HB.out)
        clear hj3 hk3
        gi_wp2
        go_roundw
        case rel => exact ⟨_, by rw [frPs_snoc, HLN.out]; simp [hwr], HJ3.out, by rw [frPs_snoc]; exact HPF.out, HW3.out, HS3.out, HB3.out⟩
        case measure => exact ms_lt _ _ _ HMS.out hw0
      · have HJ3 := Aside0.mk hj3
        clear hj3
        gi_wp2
        exact bodyPost_ret (results_none rfl _ _ _) rfl ⟨⟨_, rfl⟩, .inr ⟨_, by rw [frPs_snoc]; exact HPF.out, HJ3.out⟩⟩
end Go.Proofs.YtdooajmgfoobfaaGreatDoor.H


