/- The premises of DelayStood's contract. -/
import Derived.Test.YtljabocijojceaaS4
namespace Go.Proofs.Ytljabocijojceaa.Pure
open Go.RowKit Go.Proofs.Ytljabocijojceaa.QS
theorem DelayStood (a0 a1 : Int) (l2 : List Bool) (l3 : List Int) (w0 : (Lit.int .u8 a0).wf = true) (w1 : (Lit.int .u8 a1).wf = true) (_w2 : l2.length ≤ maxLen ∧ ∀ x0 ∈ l2, True) (w3 : l3.length ≤ maxLen ∧ ∀ x0 ∈ l3, (Lit.int .u8 x0).wf = true) :
    true = true ∧ (0 ≤ a0 ∧ a0 ≤ 255) ∧ (0 ≤ a1 ∧ a1 ≤ 255) ∧ ∀ x ∈ l3, 0 ≤ x ∧ x ≤ 255 :=
  ⟨rfl, byte_wf w0, byte_wf w1, fun x hx => byte_wf (w3.2 x hx)⟩
end Go.Proofs.Ytljabocijojceaa.Pure
