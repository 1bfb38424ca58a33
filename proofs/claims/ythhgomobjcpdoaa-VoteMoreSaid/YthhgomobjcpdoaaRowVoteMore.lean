/- The row of the law VoteMore: for every input it returns true and leaves its arguments as they were: out of its contract and the plain statement 'VoteMore'. -/
import Derived.Test.YthhgomobjcpdoaaRows
import Derived.Test.YthhgomobjcpdoaaQA3
import Derived.Test.YthhgomobjcpdoaaPureB
import Derived.Test.YthhgomobjcpdoaaOpen
import Derived.WalkKit
import Derived.ProofKit
import Derived.OpenShut
import Derived.ShutString
import Derived.ChangeOld
import Derived.Below
import Derived.SizedLaws
namespace Go.Proofs.Ythhgomobjcpdoaa.voteMore
open Go.ChangeShapes Go.WideShapes Go.ChangeAt Go.RowKit Go.Proofs.YthhgomobjcpdoaaW.PrintWords Go.Proofs.YthhgomobjcpdoaaW.PrintLast
open Go.ChangeMaps (open_string shut_string)
set_option linter.unusedVariables false
theorem own : ownKnob Try.prog.godebug = none := by kernel_rfl
theorem laidOut : laidOutB Try.prog = true := by kernel_rfl
set_option maxRecDepth 100000 in
theorem lifted (os : Os) (started : os.Started) (H : Type) (enc : TypeId × Value → H) :
    ReturnsInHanded {} Try.checked os 4 .any (Rows.voteMoreSpec.pre6 enc Try.prog Try.f4 Rows.voteMoreRow.domain false) (Rows.voteMoreSpec.post enc Try.prog Try.f4 false true false false) := by
  refine returnsInHanded_of_change_sized (C := Try.checked) own started (by kernel_rfl) Try.func4
    (ChangeSpec.witness6 (enc := enc) (C := Try.checked) false ⟨#[], #[.int .i64 0, .slice none 0 0, .int .u16 0, .bool false], []⟩ 8 (by kernel_rfl) (by kernel_rfl) (by kernel_rfl) (by kernel_rfl)) ?_
  intro W base args ds gs before hval0 hW hcnd hsz0 _
  have hval : ∀ (j : Nat) t v, Try.f4.params[j]? = some t → args[j]? = some v → Value.okWide Try.prog W .any base t v := hval0
  have hW' := hW
  obtain ⟨p, q, hA0, hV, rfl, hfz, hnd⟩ := hW
  have hA : DataW.TrodAll enc Try.prog W 0 (fun _ => true) true Try.f4.params.toList args.toList ds p := hA0
  rw [Try.params4] at hA hval
  obtain ⟨v0, vs0, d0, ds0, p0, q0, hargs, rfl, rfl, h0, r0⟩ := trodAll_cons hA
  obtain ⟨v1, vs1, d1, ds1, p1, q1, rfl, rfl, rfl, h1, r1⟩ := trodAll_cons r0
  obtain ⟨v2, vs2, d2, ds2, p2, q2, rfl, rfl, rfl, h2, r2⟩ := trodAll_cons r1
  obtain ⟨v3, vs3, d3, ds3, p3, q3, rfl, rfl, rfl, h3, r3⟩ := trodAll_cons r2
  obtain ⟨rfl, rfl, rfl⟩ := trodAll_nil r3
  obtain rfl : args = #[v0, v1, v2, v3] := by cases args; simp_all
  obtain ⟨rfl, rfl⟩ := trodVars_none hV
  obtain ⟨a0, rfl, rfl, rfl, w0⟩ := open_int Try.underlying3 (hval 0 3 v0 rfl rfl) h0
  obtain ⟨A1, len1, cap1, rfl⟩ := okWide_slice Try.underlying22 (hval 1 22 v1 rfl rfl)
  have k1 := h1
  have lt1 : ∀ x ∈ p1, x.block < W.heap.size := by obtain ⟨m, hm⟩ := k1; exact DataW.trod_lt m _ _ _ hm
  obtain ⟨l1, ⟨A', c', e1, hc1, hr1⟩, w1⟩ : ∃ l, ((Kd.slice 29 QA.k29)).K W l [.slice A1 len1 cap1] ∧ (l.length ≤ maxLen ∧ ∀ x0 ∈ l, (True) ∧ (True) ∧ (True)) := by
    obtain ⟨fuel, hf⟩ := h1
    exact (show Opn.Opens Try.prog ((Kd.slice 29 QA.k29)) 22 (fun l => l.length ≤ maxLen ∧ ∀ x0 ∈ l, (True) ∧ (True) ∧ (True)) from (Opn.opens_slice Try.underlying22 (Opn.opens_struct (fun x : QA.S29 => (x.f0, x.f1, x.f2)) (fun v => ⟨v.1, v.2.1, v.2.2⟩) (fun _ => rfl) Try.underlying29 (by kernel_rfl) (Opn.opensF_cons (a := 1) (Opn.opens_bool Try.underlying4) rfl (by kernel_rfl) (Opn.opensF_cons (a := 1) (Opn.opens_bool Try.underlying4) rfl (by kernel_rfl) (Opn.opensF_one (len := 1) (Opn.opens_bool Try.underlying4) rfl (by kernel_rfl))))) (by kernel_rfl))) _ _ _ _ _ _ _ _ _ hf
  obtain ⟨rfl, rfl, rfl⟩ : A1 = A' ∧ len1 = l1.length ∧ cap1 = c' := by injection e1 with e_ _; injection e_ with e1 e2 e3; exact ⟨e1, e2, e3⟩
  obtain ⟨a2, rfl, rfl, rfl, w2⟩ := open_int Try.underlying27 (hval 2 27 v2 rfl rfl) h2
  obtain ⟨a3, rfl, rfl, rfl⟩ := open_bool Try.underlying4 (hval 3 4 v3 rfl rfl) h3
  clear hA0 hval0 hsz0
  obtain ⟨k, hpure⟩ := Pure.VoteMore a0 l1 a2 a3 w0 w1 w2
  refine (QA.watchkeeperlaw13_VoteMore.calls k a0 _ _ l1 a2 a3 true W hr1 hc1 hpure).mono fun e W' ⟨he, bel⟩ => ?_
  subst he
  exact ⟨_, rfl, _, _, _, [], _, [], hW', trodAll_mk1 (shut_bool Try.underlying4 _), (trodAll_cons_mk (shut_int Try.underlying3 w0) (trodAll_cons_mk (Below.trod laidOut (by kernel_rfl) (of_decide_eq_true (by kernel_rfl)) k1 bel lt1) (trodAll_cons_mk (shut_int Try.underlying27 w2) (trodAll_cons_mk (shut_bool Try.underlying4 _) trodAll_mk0)))), rfl, bel.frame _, fun h => by cases h⟩
theorem over : Rows.voteMoreRow.holds Try.pinned (OpenSpec.ofChange Rows.voteMoreSpec) :=
  OpenClaim.holds_of_wide 4 Try.f4 rfl rfl rfl rfl rfl rfl rfl ⟨rfl, rfl, rfl, rfl, rfl⟩ rfl rfl rfl rfl rfl (by kernel_rfl) Try.func4 (by kernel_rfl)
    (of_decide_eq_true (by kernel_rfl)) (by unfold Func.isWrapper; first | (rw [if_pos (by decide +kernel)]; kernel_rfl) | (rw [if_neg (by decide +kernel)]; exact ⟨rfl, rfl⟩))
    (fun os started H enc _ => lifted os started H enc)
theorem proved : Rows.VoteMoreSaid := over
#print axioms proved
end Go.Proofs.Ythhgomobjcpdoaa.voteMore
namespace Go.Proofs.Ythhgomobjcpdoaa
theorem voteMore_holds : Rows.VoteMoreSaid := voteMore.proved
end Go.Proofs.Ythhgomobjcpdoaa
