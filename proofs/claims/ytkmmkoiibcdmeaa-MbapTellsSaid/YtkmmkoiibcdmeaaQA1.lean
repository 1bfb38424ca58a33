/- Contracts of the functions that the law reaches, and what each comes to as a plain function; laid by a program of mine over the printer. -/
import Derived.Test.YtkmmkoiibcdmeaaQA0
namespace Go.Proofs.Ytkmmkoiibcdmeaa.QA
open Go.RowKit Go.Proofs.YtkmmkoiibcdmeaaW.PrintWords Go.Proofs.YtkmmkoiibcdmeaaW.PrintLast Go.Proofs.YtkmmkoiibcdmeaaW.PrintMore
attribute [local go_sem] max2_int min2_int max_two min_two max_three min_three max_four min_four   -- for this text's walks alone
set_option linter.unusedVariables false
set_option linter.unusedSimpArgs false

/-! ### mbap_word: function 19 -/
def mbap_word.f (l0 : List Int) : Option (Int) := if 0 < (l0.length : Int) then (if 1 < (l0.length : Int) then (some (Go.bits .or .u16 (IntKind.u16.wrap ((IntKind.u16.wrap (rd l0 0)) * 256)) (IntKind.u16.wrap (rd l0 1)))) else (none)) else (none)
set_option maxHeartbeats 8000000 in
set_option maxRecDepth 100000 in
theorem mbap_word.calls (A0 : Option Addr) (c0 : Nat) (l0 : List Int) (r : Int) (w : World) (hr0 : Kd.C (Kd.int .u8) w A0 l0.length l0) (hc0 : l0.length ≤ c0) (h : mbap_word.f l0 = some r) :
    Calls Try.prog 19 #[.slice A0 l0.length c0] w fun e w' => e = .returned (.int .u16 r) ∧ Drawn0 w w' := by
  have HR0 := Aside0.mk hr0
  have HC0 := Aside0.mk hc0
  clear hr0 hc0
  have H : (if 0 < (l0.length : Int) then (if 1 < (l0.length : Int) then (some (Go.bits .or .u16 (IntKind.u16.wrap ((IntKind.u16.wrap (rd l0 0)) * 256)) (IntKind.u16.wrap (rd l0 1)))) else (none)) else (none)) = some r := h
  clear h
  by_cases c2 : 0 < (l0.length : Int)
  · rw [if_pos c2] at H
    have c2b0 : decide (0 < (l0.length : Int)) = true := decide_eq_true c2
    have c2b1 : decide (0 < l0.length) = true := decide_eq_true (by omega)
    clear c2
    by_cases c3 : 1 < (l0.length : Int)
    · rw [if_pos c3] at H
      have c3b0 : decide (1 < (l0.length : Int)) = true := decide_eq_true c3
      have c3b1 : decide (1 < l0.length) = true := decide_eq_true (by omega)
      clear c3
      obtain rfl := Option.some.inj H
      have p101 : 0 ≤ (0 : Int) := (by omega)
      have q101 : 0 < (l0.length : Int) := of_decide_eq_true (by first | (with_reducible assumption) | assumption)
      obtain ⟨ad101, e101, hx101_0⟩ := Kd.at_int HR0.out 0 p101 q101
      cases e101
      have qi101 : (0 < l0.length) = True := eq_true (by omega)
      (try rw [show ((0 : Int)).toNat = 0 from rfl] at hx101_0)
      (try rw [Addr.add_zero'] at hx101_0)
      replace p101 := eq_true p101
      replace q101 := eq_true q101
      have p102 : 0 ≤ (1 : Int) := (by omega)
      have q102 : 1 < (l0.length : Int) := of_decide_eq_true (by first | (with_reducible assumption) | assumption)
      obtain ⟨ad102, e102, hx102_0⟩ := Kd.at_int HR0.out 1 p102 q102
      obtain rfl : ad101 = ad102 := (by injection e102)
      (try simp only [show (1 : Int).toNat = 1 from rfl, Nat.reduceMul, Nat.reduceEqDiff, Go.Addr.add, ↓reduceIte] at hx102_0)
      have qi102 : (1 < l0.length) = True := eq_true (by omega)
      (try rw [show ((1 : Int)).toNat = 1 from rfl] at hx102_0)
      replace p102 := eq_true p102
      replace q102 := eq_true q102
      go_enter Try.func19, Try.ntmps19
      go_wp2
      repeat (go_quiet (fail); try go_wp2)
      go_ret
      exact ⟨by first | rfl | (simp; done) | (simp [*]; done), by repeat (first | exact Drawn0.refl _ | apply Drawn0.step)⟩
    · rw [if_neg c3] at H
      exact absurd H (by simp)
  · rw [if_neg c2] at H
    exact absurd H (by simp)

end Go.Proofs.Ytkmmkoiibcdmeaa.QA
