/- The row of the law MbapRest: for every input it returns true and leaves its arguments as they were. -/
import Derived.Test.YtkmmkoiibcdmeaaRows
import Derived.Test.YtkmmkoiibcdmeaaR1
import Derived.Test.YtkmmkoiibcdmeaaOpen
import Derived.WalkKit
import Derived.ProofKit
import Derived.OpenShut
import Derived.ShutString
import Derived.ChangeOld
import Derived.Below
import Derived.SizedLaws
namespace Go.Proofs.Ytkmmkoiibcdmeaa.mbapRest
open Go.ChangeShapes Go.WideShapes Go.ChangeAt Go.RowKit Go.Proofs.YtkmmkoiibcdmeaaW.PrintWords Go.Proofs.YtkmmkoiibcdmeaaW.PrintLast
open Go.ChangeMaps (open_string shut_string)
set_option linter.unusedVariables false
theorem own : ownKnob Try.prog.godebug = none := by kernel_rfl
theorem laidOut : laidOutB Try.prog = true := by kernel_rfl
set_option maxRecDepth 100000 in
theorem lifted (os : Os) (started : os.Started) (H : Type) (enc : TypeId × Value → H) :
    ReturnsInHanded {} Try.checked os 7 .any (Rows.mbapRestSpec.pre6 enc Try.prog Try.f7 Rows.mbapRestRow.domain false) (Rows.mbapRestSpec.post enc Try.prog Try.f7 false true false false) := by
  refine returnsInHanded_of_change_sized (C := Try.checked) own started (by kernel_rfl) Try.func7
    (ChangeSpec.witness6 (enc := enc) (C := Try.checked) false ⟨#[], #[.slice none 0 0], []⟩ 8 (by kernel_rfl) (by kernel_rfl) (by kernel_rfl) (by kernel_rfl)) ?_
  intro W base args ds gs before hval0 hW hcnd hsz0 _
  have hval : ∀ (j : Nat) t v, Try.f7.params[j]? = some t → args[j]? = some v → Value.okWide Try.prog W .any base t v := hval0
  have hW' := hW
  obtain ⟨p, q, hA0, hV, rfl, hfz, hnd⟩ := hW
  have hA : DataW.TrodAll enc Try.prog W 0 (fun _ => true) true Try.f7.params.toList args.toList ds p := hA0
  rw [Try.params7] at hA hval
  obtain ⟨v0, vs0, d0, ds0, p0, q0, hargs, rfl, rfl, h0, r0⟩ := trodAll_cons hA
  obtain ⟨rfl, rfl, rfl⟩ := trodAll_nil r0
  obtain rfl : args = #[v0] := by cases args; simp_all
  obtain ⟨rfl, rfl⟩ := trodVars_none hV
  obtain ⟨A0, len0, cap0, rfl⟩ := okWide_slice Try.underlying22 (hval 0 22 v0 rfl rfl)
  have k0 := h0
  have lt0 : ∀ x ∈ p0, x.block < W.heap.size := by obtain ⟨m, hm⟩ := k0; exact DataW.trod_lt m _ _ _ hm
  obtain ⟨l0, ⟨A', c', e0, hc0, hr0⟩, w0⟩ : ∃ l, ((Kd.slice 5 (Kd.int .u8))).K W l [.slice A0 len0 cap0] ∧ (l.length ≤ maxLen ∧ ∀ x0 ∈ l, (Lit.int .u8 x0).wf = true) := by
    obtain ⟨fuel, hf⟩ := h0
    exact (show Opn.Opens Try.prog ((Kd.slice 5 (Kd.int .u8))) 22 (fun l => l.length ≤ maxLen ∧ ∀ x0 ∈ l, (Lit.int .u8 x0).wf = true) from (Opn.opens_slice Try.underlying22 (Opn.opens_int Try.underlying5) (by kernel_rfl))) _ _ _ _ _ _ _ _ _ hf
  obtain ⟨rfl, rfl, rfl⟩ : A0 = A' ∧ len0 = l0.length ∧ cap0 = c' := by injection e0 with e_ _; injection e_ with e1 e2 e3; exact ⟨e1, e2, e3⟩
  clear hA0 hval0 hsz0
  refine (rest_law _ _ l0 W hr0 hc0 w0).mono fun e W' ⟨he, bel⟩ => ?_
  subst he
  exact ⟨_, rfl, _, _, _, [], _, [], hW', trodAll_mk1 (shut_bool Try.underlying4 _), (trodAll_cons_mk (Below.trod laidOut (by kernel_rfl) (of_decide_eq_true (by kernel_rfl)) k0 bel lt0) trodAll_mk0), rfl, bel.frame _, fun h => by cases h⟩
theorem over : Rows.mbapRestRow.holds Try.pinned (OpenSpec.ofChange Rows.mbapRestSpec) :=
  OpenClaim.holds_of_wide 7 Try.f7 rfl rfl rfl rfl rfl rfl rfl ⟨rfl, rfl, rfl, rfl, rfl⟩ rfl rfl rfl rfl rfl (by kernel_rfl) Try.func7 (by kernel_rfl)
    (of_decide_eq_true (by kernel_rfl)) (by unfold Func.isWrapper; first | (rw [if_pos (by decide +kernel)]; kernel_rfl) | (rw [if_neg (by decide +kernel)]; exact ⟨rfl, rfl⟩))
    (fun os started H enc _ => lifted os started H enc)
theorem proved : Rows.MbapRestSaid := over
#print axioms proved
end Go.Proofs.Ytkmmkoiibcdmeaa.mbapRest
namespace Go.Proofs.Ytkmmkoiibcdmeaa
theorem mbapRest_holds : Rows.MbapRestSaid := mbapRest.proved
end Go.Proofs.Ytkmmkoiibcdmeaa
