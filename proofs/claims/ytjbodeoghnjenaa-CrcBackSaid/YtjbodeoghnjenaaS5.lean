/- The law CrcBack at a slice that came in. -/
import Derived.Test.YtjbodeoghnjenaaS4
namespace Go.Proofs.Ytjbodeoghnjenaa
open Go.RowKit Go.Proofs.YtjbodeoghnjenaaW.PrintWords Go.Proofs.YtjbodeoghnjenaaW.PrintLast
theorem back_walk (a0 : Option Addr) (len0 cap0 : Nat) (z0 : List Int) (w : World) (w0 : (a0 = none ∧ len0 = 0 ∧ cap0 = 0 ∧ z0 = []) ∨ ∃ x, a0 = some x ∧ len0 ≤ cap0 ∧ cap0 ≤ maxLen ∧ z0.length = cap0 ∧ (∀ i, i < z0.length → w.cell? (x.add i) = some (.int .u8 (z0.getD i 0))) ∧ ∀ n ∈ z0, (Lit.int .u8 n).wf = true) (y0 : len0 * 1 ≤ 140737488351232) :
    Calls Try.prog 4 #[.slice a0 len0 cap0] w fun e w' => e = .returned (.bool true) ∧ Below w.heap.size w w' := by
  obtain ⟨l0, rfl, hr0, hm0, hw0, hc0⟩ := ReadsInt.ofRowC w0
  exact back_any a0 cap0 l0 w (bytes_wf hw0) (Kd.C_of_reads (d := (0 : Int)) (h1 := fun _ => rfl) hr0) hc0
end Go.Proofs.Ytjbodeoghnjenaa
