/- The law FixTimes: any number so many times is the reference's. -/
import Derived.Test.YtiddemgeehcjpaaDoorFxM
import Derived.Test.YtiddemgeehcjpaaDoorFxT
namespace Go.Proofs.YtiddemgeehcjpaaDoor.H
open Go.RowKit Go.Shelf Go.Proofs.YtiddemgeehcjpaaDoor.PA Go.Proofs.YtiddemgeehcjpaaDoorW.PrintWords Go.Proofs.YtiddemgeehcjpaaDoorW.PrintLast Go.Proofs.YtiddemgeehcjpaaDoorW.PrintMore
set_option linter.unusedVariables false
set_option maxRecDepth 100000 in
set_option maxHeartbeats 2000000 in
theorem fixTimes_calls (x k : Int) (hx : i64 x) (hk : i64 k) (w : World) (htab : Tab w) : Calls Tryd.prog 7 #[.int .i64 x, .int .i64 k] w fun e w' => e = .returned (.bool true) ∧ Below w.heap.size w w' := by
  have h1 := fun W (hW : Tab W) => awake_calls W hW
  have HT := Lib.hid htab
  clear htab
  by_cases hl : k ≤ 2000
  · have h2 := fun W => times_calls x k hx hk hl W
    have h3 := fun W => (tidemillref01_Times.calls 3000 x k (sumA (List.replicate k.toNat x)).1 (sumA (List.replicate k.toNat x)).2 W (refTimes_eq x k hx hl))
    generalize (sumA (List.replicate k.toNat x)).1 = v at h2 h3
    generalize (sumA (List.replicate k.toNat x)).2 = o at h2 h3
    unfold i64 at hk
    go_enter Tryd.func7, Tryd.ntmps7
    go_wp2_with fail
    go_at_call 12
    refine (h1 _ HT.out).mono ?_
    rintro e w1 ⟨rfl, hb⟩
    have HB1 := Aside0.mk hb
    clear hb
    go_wp2_with fail
    go_at_call 23
    refine (h2 _).mono ?_
    rintro e w2 ⟨rfl, hb⟩
    have HB2 := Aside0.mk (HB1.out.trans (hb.mono HB1.out.size))
    clear hb
    go_wp2_with fail
    go_at_call 24
    refine (h3 _).mono ?_
    rintro e w3 ⟨rfl, hd⟩
    have hb := drawn_below hd
    have HB3 := Aside0.mk (HB2.out.trans (hb.mono HB2.out.size))
    clear hb hd h1 h2 h3
    cases o with
    | true =>
      go_wp2
      go_ret
      exact ⟨rfl, HB3.out⟩
    | false =>
      go_wp2
      go_ret
      exact ⟨rfl, HB3.out⟩
  · go_enter Tryd.func7, Tryd.ntmps7
    go_wp2_with fail
    go_at_call 12
    refine (h1 _ HT.out).mono ?_
    rintro e w1 ⟨rfl, hb⟩
    have HB1 := Aside0.mk hb
    clear hb
    go_wp2_with fail
    go_at_call 12
    refine (h1 _ (tab_below HT.out HB1.out)).mono ?_
    rintro e w2 ⟨rfl, hb⟩
    have HB2 := Aside0.mk (HB1.out.trans (hb.mono HB1.out.size))
    clear hb
    go_wp2
    go_ret
    exact ⟨rfl, HB2.out⟩
theorem fixTimes_row (a b : Int) (r : Bool) (w : World) (h : r = true ∧ i64 a ∧ i64 b) (htab : Tab w) :
    Calls Tryd.prog 7 #[.int .i64 a, .int .i64 b] w fun e w' => e = .returned (.bool r) ∧ Below w.heap.size w w' := by
  obtain ⟨rfl, ha, hb⟩ := h
  exact fixTimes_calls a b ha hb w htab
end Go.Proofs.YtiddemgeehcjpaaDoor.H
namespace Go.Proofs.YtiddemgeehcjpaaDoor.Pure
open Go.Proofs.YtiddemgeehcjpaaDoor.H
theorem FixTimes (a b : Int) (ha : (Lit.int .i64 a).wf = true) (hb : (Lit.int .i64 b).wf = true) : true = true ∧ i64 a ∧ i64 b := ⟨rfl, i64_of ha, i64_of hb⟩
end Go.Proofs.YtiddemgeehcjpaaDoor.Pure
