/- A region that draws its order: more may be known of the world from some operation on. -/
import Derived.Test.YtacpeilgjaodbaaWWords
import Derived.Test.YtacpeilgjaodbaaWLast
namespace Go.Proofs.Ytacpeilgjaodbaa
open Go.RowKit Go.Proofs.YtacpeilgjaodbaaW.PrintWords Go.Proofs.YtacpeilgjaodbaaW.PrintLast
theorem more_ {P : Program} {md : Region.Mode} {ops : Array Oper} {Q : Exit → Act → World → Prop} {S S' : World → Prop} (h : ∀ w, S' w → S w) :
    ∀ {fuel : Nat} {l : Array Bool} {a : Act} {w : World}, S' w → (S' w → wpAnyLast P md ops Q S' [] fuel l a w) → wpAnyLast P md ops Q S [] fuel l a w := by
  intro fuel
  induction fuel with
  | zero => intro l a w hS H; exact H hS
  | succ fuel ih =>
    intro l a w hS H
    have H := H hS
    exact ⟨H.1, fun i hi => wpOp_mono (fun a' w' h' => ⟨fun _ _ => h _ (h'.1 (by simp) hS), ih (h'.1 (by simp) hS) (fun _ => h'.2)⟩) (H.2 i hi)⟩
end Go.Proofs.Ytacpeilgjaodbaa
