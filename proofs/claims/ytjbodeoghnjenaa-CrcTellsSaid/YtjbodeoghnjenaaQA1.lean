/- Contracts of the functions that the law reaches, and what each comes to as a plain function; laid by a program of mine over the printer. -/
import Derived.Test.YtjbodeoghnjenaaQA0
namespace Go.Proofs.Ytjbodeoghnjenaa.QA
open Go.RowKit Go.Proofs.YtjbodeoghnjenaaW.PrintWords Go.Proofs.YtjbodeoghnjenaaW.PrintLast Go.Proofs.YtjbodeoghnjenaaW.PrintMore
attribute [local go_sem] max2_int min2_int max_two min_two max_three min_three max_four min_four   -- for this text's walks alone
set_option linter.unusedVariables false
set_option linter.unusedSimpArgs false

-- NOT PRINTED: function 17 (crc_table)

/-! ### crc_Sum: function 12 -/
-- making=1 rounds=0
def crc_Sum.f (l0 : List Int) : Option Int := if l0.length ≤ 1000000 ∧ l0.all isByte = true then some ((sum l0 : Nat) : Int) else none
theorem crc_Sum.calls (A0 : Option Addr) (c0 : Nat) (l0 : List Int) (r : Int) (w : World) (hr0 : Kd.C (Kd.int .u8) w A0 l0.length l0) (hc0 : l0.length ≤ c0) (h : crc_Sum.f l0 = some r) :
    Calls Try.prog 12 #[.slice A0 l0.length c0] w fun e w' => e = .returned (.int .u16 r) ∧ Below w.heap.size w w' := by
  unfold crc_Sum.f at h
  split at h
  case isTrue hc =>
    obtain rfl := Option.some.inj h
    refine (sum_any A0 c0 l0 w hc.1 (fun x hx => ?_) hr0).mono (fun e w' h => h)
    have := List.all_eq_true.1 hc.2 x hx
    simpa [isByte] using this
  case isFalse => cases h

/-! ### slices_Clone_byte_byte: function 16 -/
-- making=1 rounds=0
def slices_Clone_byte_byte.f (l0 : List Int) : Option (List Int) := if l0.length < 140737488355328 then some l0 else none
theorem slices_Clone_byte_byte.calls (A0 : Option Addr) (c0 : Nat) (l0 : List Int) (r : List Int) (w : World) (hr0 : Kd.C (Kd.int .u8) w A0 l0.length l0) (hc0 : l0.length ≤ c0) (h : slices_Clone_byte_byte.f l0 = some r) :
    Calls Try.prog 16 #[.slice A0 l0.length c0] w fun e w' => ∃ v0_ : Value, e = .returned (v0_) ∧ Kd.R (Kd.int .u8) 5 w' w.heap.size (fun _ => True) v0_ r ∧ Below w.heap.size w w' := by
  unfold slices_Clone_byte_byte.f at h
  split at h
  case isTrue hc =>
    obtain rfl := Option.some.inj h
    exact clone_any A0 c0 l0 w hc hr0
  case isFalse => cases h

/-! ### crc_Open: function 10 -/
-- making=1 rounds=0
def crc_Open.f (l0 : List Int) : Option (List Int × Bool) := if l0.length ≤ 1000000 ∧ l0.all isByte = true then some (if 2 ≤ l0.length ∧ sum l0 = 0 then l0.take (l0.length - 2) else [], decide (2 ≤ l0.length ∧ sum l0 = 0)) else none
theorem crc_Open.calls (A0 : Option Addr) (c0 : Nat) (l0 : List Int) (r1 : List Int) (r2 : Bool) (w : World) (hr0 : Kd.C (Kd.int .u8) w A0 l0.length l0) (hc0 : l0.length ≤ c0) (h : crc_Open.f l0 = some (r1, r2)) :
    Calls Try.prog 10 #[.slice A0 l0.length c0] w fun e w' => ∃ v0_ : Value, e = .returned (.tuple #[v0_, .bool r2]) ∧ Kd.R (Kd.int .u8) 5 w' w.heap.size (fun _ => True) v0_ r1 ∧ Below w.heap.size w w' := by
  unfold crc_Open.f at h
  split at h
  case isTrue hc =>
    have h := Option.some.inj h
    simp only [Prod.mk.injEq] at h
    obtain ⟨rfl, rfl⟩ := h
    refine open_any A0 c0 l0 w hc.1 (fun x hx => ?_) hr0 hc0
    have := List.all_eq_true.1 hc.2 x hx
    simpa [isByte] using this
  case isFalse => cases h

-- NOT PRINTED: function 19 (slices_Grow_byte_byte)

-- NOT PRINTED: function 18 (slices_Concat_byte_byte)

/-! ### crc_Seal: function 14 -/
-- making=1 rounds=0
def crc_Seal.f (l0 : List Int) : Option (List Int) := if l0.length ≤ 1000000 ∧ l0.all isByte = true then some (l0 ++ [((sum l0 : Nat) : Int) % 256, ((sum l0 : Nat) : Int) / 256]) else none
theorem crc_Seal.calls (A0 : Option Addr) (c0 : Nat) (l0 : List Int) (r : List Int) (w : World) (hr0 : Kd.C (Kd.int .u8) w A0 l0.length l0) (hc0 : l0.length ≤ c0) (h : crc_Seal.f l0 = some r) :
    Calls Try.prog 14 #[.slice A0 l0.length c0] w fun e w' => ∃ v0_ : Value, e = .returned (v0_) ∧ Kd.R (Kd.int .u8) 5 w' w.heap.size (fun _ => True) v0_ r ∧ Below w.heap.size w w' := by
  unfold crc_Seal.f at h
  split at h
  case isTrue hc =>
    obtain rfl := Option.some.inj h
    refine seal_any A0 c0 l0 w hc.1 (fun x hx => ?_) hr0 hc0
    have := List.all_eq_true.1 hc.2 x hx
    simpa [isByte] using this
  case isFalse => cases h

/-! ### watchkeeperlaw01_head: function 9 -/
-- making=1 rounds=0
def watchkeeperlaw01_head.f : Option Bool := some true
theorem watchkeeperlaw01_head.calls (r : Bool) (w : World) (h : watchkeeperlaw01_head.f = some r) : Calls Try.prog 9 #[] w fun e w' => e = .returned (.bool r) ∧ Below w.heap.size w w' := by
  injection h with h
  subst h
  exact head_any w

end Go.Proofs.Ytjbodeoghnjenaa.QA
