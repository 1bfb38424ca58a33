/- The row of the law DelayBack: for every input it returns true and leaves its arguments as they were: out of its contract and the plain statement 'DelayBack'. -/
import Derived.Test.YtljabocijojceaaRows
import Derived.Test.YtljabocijojceaaQA5
import Derived.Test.YtljabocijojceaaPureC
import Derived.Test.YtljabocijojceaaOpen
import Derived.WalkKit
import Derived.ProofKit
import Derived.OpenShut
import Derived.ShutString
import Derived.ChangeOld
import Derived.Below
import Derived.SizedLaws
namespace Go.Proofs.Ytljabocijojceaa.delayBack
open Go.ChangeShapes Go.WideShapes Go.ChangeAt Go.RowKit Go.Proofs.YtljabocijojceaaW.PrintWords Go.Proofs.YtljabocijojceaaW.PrintLast
open Go.ChangeMaps (open_string shut_string)
set_option linter.unusedVariables false
theorem own : ownKnob Try.prog.godebug = none := by kernel_rfl
theorem laidOut : laidOutB Try.prog = true := by kernel_rfl
set_option maxRecDepth 100000 in
theorem lifted (os : Os) (started : os.Started) (H : Type) (enc : TypeId × Value → H) :
    ReturnsInHanded {} Try.checked os 5 .any (Rows.delayBackSpec.pre6 enc Try.prog Try.f5 Rows.delayBackRow.domain false) (Rows.delayBackSpec.post enc Try.prog Try.f5 false true false false) := by
  refine returnsInHanded_of_change_sized (C := Try.checked) own started (by kernel_rfl) Try.func5
    (ChangeSpec.witness6 (enc := enc) (C := Try.checked) false ⟨#[], #[.int .u8 0, .int .u8 0, .int .u16 0, .slice none 0 0, .slice none 0 0], []⟩ 8 (by kernel_rfl) (by kernel_rfl) (by kernel_rfl) (by kernel_rfl)) ?_
  intro W base args ds gs before hval0 hW hcnd hsz0 _
  have hval : ∀ (j : Nat) t v, Try.f5.params[j]? = some t → args[j]? = some v → Value.okWide Try.prog W .any base t v := hval0
  have hW' := hW
  obtain ⟨p, q, hA0, hV, rfl, hfz, hnd⟩ := hW
  have hA : DataW.TrodAll enc Try.prog W 0 (fun _ => true) true Try.f5.params.toList args.toList ds p := hA0
  rw [Try.params5] at hA hval
  obtain ⟨v0, vs0, d0, ds0, p0, q0, hargs, rfl, rfl, h0, r0⟩ := trodAll_cons hA
  obtain ⟨v1, vs1, d1, ds1, p1, q1, rfl, rfl, rfl, h1, r1⟩ := trodAll_cons r0
  obtain ⟨v2, vs2, d2, ds2, p2, q2, rfl, rfl, rfl, h2, r2⟩ := trodAll_cons r1
  obtain ⟨v3, vs3, d3, ds3, p3, q3, rfl, rfl, rfl, h3, r3⟩ := trodAll_cons r2
  obtain ⟨v4, vs4, d4, ds4, p4, q4, rfl, rfl, rfl, h4, r4⟩ := trodAll_cons r3
  obtain ⟨rfl, rfl, rfl⟩ := trodAll_nil r4
  obtain rfl : args = #[v0, v1, v2, v3, v4] := by cases args; simp_all
  obtain ⟨rfl, rfl⟩ := trodVars_none hV
  obtain ⟨a0, rfl, rfl, rfl, w0⟩ := open_int Try.underlying5 (hval 0 5 v0 rfl rfl) h0
  obtain ⟨a1, rfl, rfl, rfl, w1⟩ := open_int Try.underlying5 (hval 1 5 v1 rfl rfl) h1
  obtain ⟨a2, rfl, rfl, rfl, w2⟩ := open_int Try.underlying37 (hval 2 37 v2 rfl rfl) h2
  obtain ⟨A3, len3, cap3, rfl⟩ := okWide_slice Try.underlying34 (hval 3 34 v3 rfl rfl)
  have k3 := h3
  have lt3 : ∀ x ∈ p3, x.block < W.heap.size := by obtain ⟨m, hm⟩ := k3; exact DataW.trod_lt m _ _ _ hm
  obtain ⟨l3, ⟨A', c', e3, hc3, hr3⟩, w3⟩ : ∃ l, ((Kd.slice 4 Kd.bool)).K W l [.slice A3 len3 cap3] ∧ (l.length ≤ maxLen ∧ ∀ x0 ∈ l, True) := by
    obtain ⟨fuel, hf⟩ := h3
    exact (show Opn.Opens Try.prog ((Kd.slice 4 Kd.bool)) 34 (fun l => l.length ≤ maxLen ∧ ∀ x0 ∈ l, True) from (Opn.opens_slice Try.underlying34 (Opn.opens_bool Try.underlying4) (by kernel_rfl))) _ _ _ _ _ _ _ _ _ hf
  obtain ⟨rfl, rfl, rfl⟩ : A3 = A' ∧ len3 = l3.length ∧ cap3 = c' := by injection e3 with e_ _; injection e_ with e1 e2 e3; exact ⟨e1, e2, e3⟩
  obtain ⟨A4, len4, cap4, rfl⟩ := okWide_slice Try.underlying35 (hval 4 35 v4 rfl rfl)
  have k4 := h4
  have lt4 : ∀ x ∈ p4, x.block < W.heap.size := by obtain ⟨m, hm⟩ := k4; exact DataW.trod_lt m _ _ _ hm
  obtain ⟨l4, ⟨A', c', e4, hc4, hr4⟩, w4⟩ : ∃ l, ((Kd.slice 5 (Kd.int .u8))).K W l [.slice A4 len4 cap4] ∧ (l.length ≤ maxLen ∧ ∀ x0 ∈ l, (Lit.int .u8 x0).wf = true) := by
    obtain ⟨fuel, hf⟩ := h4
    exact (show Opn.Opens Try.prog ((Kd.slice 5 (Kd.int .u8))) 35 (fun l => l.length ≤ maxLen ∧ ∀ x0 ∈ l, (Lit.int .u8 x0).wf = true) from (Opn.opens_slice Try.underlying35 (Opn.opens_int Try.underlying5) (by kernel_rfl))) _ _ _ _ _ _ _ _ _ hf
  obtain ⟨rfl, rfl, rfl⟩ : A4 = A' ∧ len4 = l4.length ∧ cap4 = c' := by injection e4 with e_ _; injection e_ with e1 e2 e3; exact ⟨e1, e2, e3⟩
  clear hA0 hval0 hsz0
  obtain ⟨k, hpure⟩ := Pure.DelayBack a0 a1 a2 l3 l4 w0 w1 w2 w3 w4
  refine (QA.watchkeeperlaw12_DelayBack.calls k a0 a1 a2 _ _ l3 _ _ l4 true W hr3 hc3 hr4 hc4 hpure).mono fun e W' ⟨he, bel⟩ => ?_
  subst he
  exact ⟨_, rfl, _, _, _, [], _, [], hW', trodAll_mk1 (shut_bool Try.underlying4 _), (trodAll_cons_mk (shut_int Try.underlying5 w0) (trodAll_cons_mk (shut_int Try.underlying5 w1) (trodAll_cons_mk (shut_int Try.underlying37 w2) (trodAll_cons_mk (Below.trod laidOut (by kernel_rfl) (of_decide_eq_true (by kernel_rfl)) k3 bel lt3) (trodAll_cons_mk (Below.trod laidOut (by kernel_rfl) (of_decide_eq_true (by kernel_rfl)) k4 bel lt4) trodAll_mk0))))), rfl, bel.frame _, fun h => by cases h⟩
theorem over : Rows.delayBackRow.holds Try.pinned (OpenSpec.ofChange Rows.delayBackSpec) :=
  OpenClaim.holds_of_wide 5 Try.f5 rfl rfl rfl rfl rfl rfl rfl ⟨rfl, rfl, rfl, rfl, rfl⟩ rfl rfl rfl rfl rfl (by kernel_rfl) Try.func5 (by kernel_rfl)
    (of_decide_eq_true (by kernel_rfl)) (by unfold Func.isWrapper; first | (rw [if_pos (by decide +kernel)]; kernel_rfl) | (rw [if_neg (by decide +kernel)]; exact ⟨rfl, rfl⟩))
    (fun os started H enc _ => lifted os started H enc)
theorem proved : Rows.DelayBackSaid := over
#print axioms proved
end Go.Proofs.Ytljabocijojceaa.delayBack
namespace Go.Proofs.Ytljabocijojceaa
theorem delayBack_holds : Rows.DelayBackSaid := delayBack.proved
end Go.Proofs.Ytljabocijojceaa
