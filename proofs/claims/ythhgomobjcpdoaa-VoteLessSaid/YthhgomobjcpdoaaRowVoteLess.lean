/- The row of the law VoteLess: for every input it returns true and leaves its arguments as they were: out of its contract and the plain statement 'VoteLess'. -/
import Derived.Test.YthhgomobjcpdoaaRows
import Derived.Test.YthhgomobjcpdoaaQA6
import Derived.Test.YthhgomobjcpdoaaPureC
import Derived.Test.YthhgomobjcpdoaaOpen
import Derived.WalkKit
import Derived.ProofKit
import Derived.OpenShut
import Derived.ShutString
import Derived.ChangeOld
import Derived.Below
import Derived.SizedLaws
namespace Go.Proofs.Ythhgomobjcpdoaa.voteLess
open Go.ChangeShapes Go.WideShapes Go.ChangeAt Go.RowKit Go.Proofs.YthhgomobjcpdoaaW.PrintWords Go.Proofs.YthhgomobjcpdoaaW.PrintLast
open Go.ChangeMaps (open_string shut_string)
set_option linter.unusedVariables false
theorem own : ownKnob Try.prog.godebug = none := by kernel_rfl
theorem laidOut : laidOutB Try.prog = true := by kernel_rfl
set_option maxRecDepth 100000 in
theorem lifted (os : Os) (started : os.Started) (H : Type) (enc : TypeId × Value → H) :
    ReturnsInHanded {} Try.checked os 7 .any (Rows.voteLessSpec.pre6 enc Try.prog Try.f7 Rows.voteLessRow.domain false) (Rows.voteLessSpec.post enc Try.prog Try.f7 false true false false) := by
  refine returnsInHanded_of_change_sized (C := Try.checked) own started (by kernel_rfl) Try.func7
    (ChangeSpec.witness6 (enc := enc) (C := Try.checked) false ⟨#[], #[.slice none 0 0, .int .u16 0], []⟩ 8 (by kernel_rfl) (by kernel_rfl) (by kernel_rfl) (by kernel_rfl)) ?_
  intro W base args ds gs before hval0 hW hcnd hsz0 _
  have hval : ∀ (j : Nat) t v, Try.f7.params[j]? = some t → args[j]? = some v → Value.okWide Try.prog W .any base t v := hval0
  have hW' := hW
  obtain ⟨p, q, hA0, hV, rfl, hfz, hnd⟩ := hW
  have hA : DataW.TrodAll enc Try.prog W 0 (fun _ => true) true Try.f7.params.toList args.toList ds p := hA0
  rw [Try.params7] at hA hval
  obtain ⟨v0, vs0, d0, ds0, p0, q0, hargs, rfl, rfl, h0, r0⟩ := trodAll_cons hA
  obtain ⟨v1, vs1, d1, ds1, p1, q1, rfl, rfl, rfl, h1, r1⟩ := trodAll_cons r0
  obtain ⟨rfl, rfl, rfl⟩ := trodAll_nil r1
  obtain rfl : args = #[v0, v1] := by cases args; simp_all
  obtain ⟨rfl, rfl⟩ := trodVars_none hV
  obtain ⟨A0, len0, cap0, rfl⟩ := okWide_slice Try.underlying22 (hval 0 22 v0 rfl rfl)
  have k0 := h0
  have lt0 : ∀ x ∈ p0, x.block < W.heap.size := by obtain ⟨m, hm⟩ := k0; exact DataW.trod_lt m _ _ _ hm
  obtain ⟨l0, ⟨A', c', e0, hc0, hr0⟩, w0⟩ : ∃ l, ((Kd.slice 29 QA.k29)).K W l [.slice A0 len0 cap0] ∧ (l.length ≤ maxLen ∧ ∀ x0 ∈ l, (True) ∧ (True) ∧ (True)) := by
    obtain ⟨fuel, hf⟩ := h0
    exact (show Opn.Opens Try.prog ((Kd.slice 29 QA.k29)) 22 (fun l => l.length ≤ maxLen ∧ ∀ x0 ∈ l, (True) ∧ (True) ∧ (True)) from (Opn.opens_slice Try.underlying22 (Opn.opens_struct (fun x : QA.S29 => (x.f0, x.f1, x.f2)) (fun v => ⟨v.1, v.2.1, v.2.2⟩) (fun _ => rfl) Try.underlying29 (by kernel_rfl) (Opn.opensF_cons (a := 1) (Opn.opens_bool Try.underlying4) rfl (by kernel_rfl) (Opn.opensF_cons (a := 1) (Opn.opens_bool Try.underlying4) rfl (by kernel_rfl) (Opn.opensF_one (len := 1) (Opn.opens_bool Try.underlying4) rfl (by kernel_rfl))))) (by kernel_rfl))) _ _ _ _ _ _ _ _ _ hf
  obtain ⟨rfl, rfl, rfl⟩ : A0 = A' ∧ len0 = l0.length ∧ cap0 = c' := by injection e0 with e_ _; injection e_ with e1 e2 e3; exact ⟨e1, e2, e3⟩
  obtain ⟨a1, rfl, rfl, rfl, w1⟩ := open_int Try.underlying27 (hval 1 27 v1 rfl rfl) h1
  clear hA0 hval0 hsz0
  obtain ⟨k, hpure⟩ := Pure.VoteLess l0 a1 w0 w1
  refine (QA.watchkeeperlaw13_VoteLess.calls k _ _ l0 a1 true W hr0 hc0 hpure).mono fun e W' ⟨he, bel⟩ => ?_
  subst he
  exact ⟨_, rfl, _, _, _, [], _, [], hW', trodAll_mk1 (shut_bool Try.underlying4 _), (trodAll_cons_mk (Below.trod laidOut (by kernel_rfl) (of_decide_eq_true (by kernel_rfl)) k0 bel lt0) (trodAll_cons_mk (shut_int Try.underlying27 w1) trodAll_mk0)), rfl, bel.frame _, fun h => by cases h⟩
theorem over : Rows.voteLessRow.holds Try.pinned (OpenSpec.ofChange Rows.voteLessSpec) :=
  OpenClaim.holds_of_wide 7 Try.f7 rfl rfl rfl rfl rfl rfl rfl ⟨rfl, rfl, rfl, rfl, rfl⟩ rfl rfl rfl rfl rfl (by kernel_rfl) Try.func7 (by kernel_rfl)
    (of_decide_eq_true (by kernel_rfl)) (by unfold Func.isWrapper; first | (rw [if_pos (by decide +kernel)]; kernel_rfl) | (rw [if_neg (by decide +kernel)]; exact ⟨rfl, rfl⟩))
    (fun os started H enc _ => lifted os started H enc)
theorem proved : Rows.VoteLessSaid := over
#print axioms proved
end Go.Proofs.Ythhgomobjcpdoaa.voteLess
namespace Go.Proofs.Ythhgomobjcpdoaa
theorem voteLess_holds : Rows.VoteLessSaid := voteLess.proved
end Go.Proofs.Ythhgomobjcpdoaa
