/- The row of the law MbapBack: for every input it returns true and leaves its arguments as they were. -/
import Derived.Test.YtkmmkoiibcdmeaaRows
import Derived.Test.YtkmmkoiibcdmeaaBK
import Derived.Test.YtkmmkoiibcdmeaaOpen
import Derived.WalkKit
import Derived.ProofKit
import Derived.OpenShut
import Derived.ShutString
import Derived.ChangeOld
import Derived.Below
import Derived.SizedLaws
namespace Go.Proofs.Ytkmmkoiibcdmeaa.mbapBack
open Go.ChangeShapes Go.WideShapes Go.ChangeAt Go.RowKit Go.Proofs.YtkmmkoiibcdmeaaW.PrintWords Go.Proofs.YtkmmkoiibcdmeaaW.PrintLast
open Go.ChangeMaps (open_string shut_string)
set_option linter.unusedVariables false
theorem own : ownKnob Try.prog.godebug = none := by kernel_rfl
theorem laidOut : laidOutB Try.prog = true := by kernel_rfl
set_option maxRecDepth 100000 in
theorem lifted (os : Os) (started : os.Started) (H : Type) (enc : TypeId × Value → H) :
    ReturnsInHanded {} Try.checked os 5 .any (Rows.mbapBackSpec.pre6 enc Try.prog Try.f5 Rows.mbapBackRow.domain false) (Rows.mbapBackSpec.post enc Try.prog Try.f5 false true false false) := by
  refine returnsInHanded_of_change_sized (C := Try.checked) own started (by kernel_rfl) Try.func5
    (ChangeSpec.witness6 (enc := enc) (C := Try.checked) false ⟨#[], #[.slice none 0 0], []⟩ 8 (by kernel_rfl) (by kernel_rfl) (by kernel_rfl) (by kernel_rfl)) ?_
  intro W base args ds gs before hval0 hW hcnd hsz0 _
  have hval : ∀ (j : Nat) t v, Try.f5.params[j]? = some t → args[j]? = some v → Value.okWide Try.prog W .any base t v := hval0
  have hW' := hW
  obtain ⟨p, q, hA0, hV, rfl, hfz, hnd⟩ := hW
  have hA : DataW.TrodAll enc Try.prog W 0 (fun _ => true) true Try.f5.params.toList args.toList ds p := hA0
  rw [Try.params5] at hA hval
  obtain ⟨v0, vs0, d0, ds0, p0, q0, hargs, rfl, rfl, h0, r0⟩ := trodAll_cons hA
  obtain ⟨rfl, rfl, rfl⟩ := trodAll_nil r0
  obtain rfl : args = #[v0] := by cases args; simp_all
  obtain ⟨rfl, rfl⟩ := trodVars_none hV
  obtain ⟨A0, len0, cap0, rfl⟩ := okWide_slice Try.underlying32 (hval 0 32 v0 rfl rfl)
  have k0 := h0
  have lt0 : ∀ x ∈ p0, x.block < W.heap.size := by obtain ⟨m, hm⟩ := k0; exact DataW.trod_lt m _ _ _ hm
  obtain ⟨l0, ⟨A', c', e0, hc0, hr0⟩, w0⟩ : ∃ l, ((Kd.slice 26 QD.k26)).K W l [.slice A0 len0 cap0] ∧ (l.length ≤ maxLen ∧ ∀ x0 ∈ l, ((Lit.int .u16 x0.f0).wf = true) ∧ ((Lit.int .u8 x0.f1).wf = true) ∧ (x0.f2.length ≤ maxLen ∧ ∀ x1 ∈ x0.f2, (Lit.int .u8 x1).wf = true)) := by
    obtain ⟨fuel, hf⟩ := h0
    exact (show Opn.Opens Try.prog ((Kd.slice 26 QD.k26)) 32 (fun l => l.length ≤ maxLen ∧ ∀ x0 ∈ l, ((Lit.int .u16 x0.f0).wf = true) ∧ ((Lit.int .u8 x0.f1).wf = true) ∧ (x0.f2.length ≤ maxLen ∧ ∀ x1 ∈ x0.f2, (Lit.int .u8 x1).wf = true)) from (Opn.opens_slice Try.underlying32 (Opn.opens_struct (fun x : QD.S26 => (x.f0, x.f1, x.f2)) (fun v => ⟨v.1, v.2.1, v.2.2⟩) (fun _ => rfl) Try.underlying26 (by kernel_rfl) (Opn.opensF_cons (a := 1) (Opn.opens_int Try.underlying24) rfl (by kernel_rfl) (Opn.opensF_cons (a := 1) (Opn.opens_int Try.underlying5) rfl (by kernel_rfl) (Opn.opensF_one (len := 1) (Opn.opens_slice Try.underlying22 (Opn.opens_int Try.underlying5) (by kernel_rfl)) rfl (by kernel_rfl))))) (by kernel_rfl))) _ _ _ _ _ _ _ _ _ hf
  obtain ⟨rfl, rfl, rfl⟩ : A0 = A' ∧ len0 = l0.length ∧ cap0 = c' := by injection e0 with e_ _; injection e_ with e1 e2 e3; exact ⟨e1, e2, e3⟩
  clear hA0 hval0 hsz0
  refine (back_law _ _ l0 W hr0 hc0 w0).mono fun e W' ⟨he, bel⟩ => ?_
  subst he
  exact ⟨_, rfl, _, _, _, [], _, [], hW', trodAll_mk1 (shut_bool Try.underlying4 _), (trodAll_cons_mk (Below.trod laidOut (by kernel_rfl) (of_decide_eq_true (by kernel_rfl)) k0 bel lt0) trodAll_mk0), rfl, bel.frame _, fun h => by cases h⟩
theorem over : Rows.mbapBackRow.holds Try.pinned (OpenSpec.ofChange Rows.mbapBackSpec) :=
  OpenClaim.holds_of_wide 5 Try.f5 rfl rfl rfl rfl rfl rfl rfl ⟨rfl, rfl, rfl, rfl, rfl⟩ rfl rfl rfl rfl rfl (by kernel_rfl) Try.func5 (by kernel_rfl)
    (of_decide_eq_true (by kernel_rfl)) (by unfold Func.isWrapper; first | (rw [if_pos (by decide +kernel)]; kernel_rfl) | (rw [if_neg (by decide +kernel)]; exact ⟨rfl, rfl⟩))
    (fun os started H enc _ => lifted os started H enc)
theorem proved : Rows.MbapBackSaid := over
#print axioms proved
end Go.Proofs.Ytkmmkoiibcdmeaa.mbapBack
namespace Go.Proofs.Ytkmmkoiibcdmeaa
theorem mbapBack_holds : Rows.MbapBackSaid := mbapBack.proved
end Go.Proofs.Ytkmmkoiibcdmeaa
