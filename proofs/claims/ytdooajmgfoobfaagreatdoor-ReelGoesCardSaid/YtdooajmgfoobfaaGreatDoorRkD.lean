/- The order of names; a function value that is called in a drawn region; a rack's put. -/
import Derived.Test.YtdooajmgfoobfaaGreatDoorRkC
import Derived.Lib.Bytealg
namespace Go.Proofs.YtdooajmgfoobfaaGreatDoor.H
open Go.RowKit Go.Proofs.YtdooajmgfoobfaaGreatDoor.PA Go.Proofs.YtdooajmgfoobfaaGreatDoorW.PrintWords Go.Proofs.YtdooajmgfoobfaaGreatDoorW.PrintLast Go.Proofs.YtdooajmgfoobfaaGreatDoorW.PrintMore
set_option linter.unusedVariables false
set_option linter.unusedSimpArgs false
/-- How two names stand to each other. -/
def cmpS (a b : ByteArray) : Int := Lib.compareBytes a.data.toList b.data.toList
theorem cmpB_eq : ∀ (a b : List UInt8), Lib.compareBytes a b = 0 ↔ a = b
  | [], [] => by simp [Lib.compareBytes]
  | [], _ :: _ => by simp [Lib.compareBytes]
  | _ :: _, [] => by simp [Lib.compareBytes]
  | x :: a, y :: b => by
    unfold Lib.compareBytes
    have ih := cmpB_eq a b
    by_cases h1 : x < y
    · have : x ≠ y := fun e => by subst e; exact UInt8.lt_irrefl x h1
      simp [h1, this]
    · by_cases h2 : y < x
      · have : x ≠ y := fun e => by subst e; exact UInt8.lt_irrefl x h2
        simp [h1, h2, this]
      · have : x = y := UInt8.le_antisymm (UInt8.not_lt.1 h2) (UInt8.not_lt.1 h1)
        subst this
        rw [if_neg h1, if_neg h1, ih]
        simp
theorem cmpB_anti : ∀ (a b : List UInt8), Lib.compareBytes a b < 0 ↔ Lib.compareBytes b a > 0
  | [], [] => by simp [Lib.compareBytes]
  | [], _ :: _ => by simp [Lib.compareBytes]
  | _ :: _, [] => by simp [Lib.compareBytes]
  | x :: a, y :: b => by
    unfold Lib.compareBytes
    have ih := cmpB_anti a b
    by_cases h1 : x < y
    · have h2 : ¬ y < x := fun h => UInt8.lt_irrefl x (UInt8.lt_trans h1 h)
      simp [h1, h2]
    · by_cases h2 : y < x
      · simp [h1, h2]
      · rw [if_neg h1, if_neg h2, if_neg h2, if_neg h1, ih]
theorem cmpB_trans : ∀ (a b c : List UInt8), Lib.compareBytes a b < 0 → Lib.compareBytes b c < 0 → Lib.compareBytes a c < 0
  | [], [], _ => by simp [Lib.compareBytes]
  | [], _ :: _, [] => by simp [Lib.compareBytes]
  | [], _ :: _, _ :: _ => by simp [Lib.compareBytes]
  | _ :: _, [], _ => by simp [Lib.compareBytes]
  | _ :: _, _ :: _, [] => by simp [Lib.compareBytes]
  | x :: a, y :: b, z :: c => by
    intro p q
    unfold Lib.compareBytes at p q ⊢
    have ih := cmpB_trans a b c
    by_cases h1 : x < y
    · by_cases h2 : y < z
      · simp [UInt8.lt_trans h1 h2]
      · rw [if_neg h2] at q
        by_cases h3 : z < y
        · rw [if_pos h3] at q; omega
        · have : y = z := UInt8.le_antisymm (UInt8.not_lt.1 h3) (UInt8.not_lt.1 h2)
          subst this
          simp [h1]
    · rw [if_neg h1] at p
      by_cases h2 : y < x
      · rw [if_pos h2] at p; omega
      · rw [if_neg h2] at p
        have : x = y := UInt8.le_antisymm (UInt8.not_lt.1 h2) (UInt8.not_lt.1 h1)
        subst this
        by_cases h3 : x < z
        · simp [h3]
        · rw [if_neg h3] at q ⊢
          by_cases h4 : z < x
          · rw [if_pos h4] at q; omega
          · rw [if_neg h4] at q ⊢
            exact ih p q
theorem ba_ext {a b : ByteArray} (h : a.data.toList = b.data.toList) : a = b := by
  cases a with | mk x => cases b with | mk y => cases x with | mk l => cases y with | mk m => simp at h; rw [h]
theorem cmpS_ok : Tr.Cmp cmpS := ⟨fun a b => by unfold cmpS; rw [cmpB_eq]; exact ⟨ba_ext, fun e => by rw [e]⟩, fun a b => cmpB_anti _ _, fun a b c => cmpB_trans _ _ _⟩
set_option maxRecDepth 100000 in
theorem compareB_calls (a b : ByteArray) (w : World) : Calls Tryz.prog 33 #[.string a, .string b] w fun e w' => e = .returned (.int .i64 (cmpS a b)) ∧ w' = w := by
  go_enter Tryz.func33, Tryz.ntmps33
  go_wp2
  rw [run_callFunc_extern Tryz.func61 (by kernel_rfl) (by kernel_rfl) (by kernel_rfl) (e := Extern.BytealgCompare.compare) (by kernel_rfl), Lib.run_compareString]
  simp only [Result.andThen]
  rw [Oper.upon_value]
  go_wp2
  go_ret
  exact ⟨rfl, rfl⟩
set_option maxRecDepth 100000 in
theorem compare_calls (a b : ByteArray) (w : World) : Calls Tryz.prog 17 #[.string a, .string b] w fun e w' => e = .returned (.int .i64 (cmpS a b)) ∧ w' = w := by
  go_enter Tryz.func17, Tryz.ntmps17
  go_wp2_with (go_at_call 33; refine (compareB_calls _ _ _).mono ?_; rintro e w' ⟨rfl, rfl⟩)
  go_ret
  exact ⟨rfl, rfl⟩
section
variable {P : Program} {ops : Array Oper} {Q : Exit → Act → World → Prop}
/-- A call through a function value, in a region that draws its order. -/
theorem goesV_ {oi : Oper} {N : Option Tmp} {a : Act} {w : World} {K : Act → World → Prop} {f : FuncId} {fn : Func} {q : Operand} {lb : Array Value} {ars : Array Operand} {ts : Array TypeId} (hf : P.funcs[f]? = some fn) (hname : (fn.name == "runtime.NumGoroutine") = false) (hb : fn.body.isSome = true) (args args' : Array Value)
    (hw : Region.wanted oi (yielded ops a.tmps) = true) (hN : oi.dst = N) (hop : oi.op = .call { callee := .value q, args := ars, argTypes := ts }) (hq : a.eval q = .func (.func f) #[] lb) (hargs : ars.map a.eval = args) (hl : args ++ lb = args')
    (h : Calls P f args' w fun e w' => ∃ v, e = .returned v ∧ K (a.put N v) w') : if Region.wanted oi (yielded ops a.tmps) = true then Oper.wp P oi a w K Q else K (a.put N undef) w := by
  refine call_ f args' hw hN ?_ h
  have he := enters_ hf hname hb args' w
  unfold execOp
  simp [hop, resolve, hq, Deferred.ofValue, invoke, hargs, hl, he]
end
end Go.Proofs.YtdooajmgfoobfaaGreatDoor.H
