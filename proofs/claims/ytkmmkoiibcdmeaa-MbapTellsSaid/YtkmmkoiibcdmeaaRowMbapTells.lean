/- The row of the law MbapTells: for every input it returns true and leaves its arguments as they were. -/
import Derived.Test.YtkmmkoiibcdmeaaRows
import Derived.Test.YtkmmkoiibcdmeaaT1
import Derived.Test.YtkmmkoiibcdmeaaOpen
import Derived.WalkKit
import Derived.ProofKit
import Derived.OpenShut
import Derived.ShutString
import Derived.ChangeOld
import Derived.Below
import Derived.SizedLaws
namespace Go.Proofs.Ytkmmkoiibcdmeaa.mbapTells
open Go.ChangeShapes Go.WideShapes Go.ChangeAt Go.RowKit Go.Proofs.YtkmmkoiibcdmeaaW.PrintWords Go.Proofs.YtkmmkoiibcdmeaaW.PrintLast
open Go.ChangeMaps (open_string shut_string)
set_option linter.unusedVariables false
theorem own : ownKnob Try.prog.godebug = none := by kernel_rfl
theorem laidOut : laidOutB Try.prog = true := by kernel_rfl
set_option maxRecDepth 100000 in
theorem lifted (os : Os) (started : os.Started) (H : Type) (enc : TypeId × Value → H) :
    ReturnsInHanded {} Try.checked os 4 .any (Rows.mbapTellsSpec.pre6 enc Try.prog Try.f4 Rows.mbapTellsRow.domain false) (Rows.mbapTellsSpec.post enc Try.prog Try.f4 false true false false) := by
  refine returnsInHanded_of_change_sized (C := Try.checked) own started (by kernel_rfl) Try.func4
    (ChangeSpec.witness6 (enc := enc) (C := Try.checked) false ⟨#[], #[.agg #[.int .u16 0, .int .u8 0, .slice none 0 0], .slice none 0 0], []⟩ 8 (by kernel_rfl) (by kernel_rfl) (by kernel_rfl) (by kernel_rfl)) ?_
  intro W base args ds gs before hval0 hW hcnd hsz0 _
  have hval : ∀ (j : Nat) t v, Try.f4.params[j]? = some t → args[j]? = some v → Value.okWide Try.prog W .any base t v := hval0
  have hW' := hW
  obtain ⟨p, q, hA0, hV, rfl, hfz, hnd⟩ := hW
  have hA : DataW.TrodAll enc Try.prog W 0 (fun _ => true) true Try.f4.params.toList args.toList ds p := hA0
  rw [Try.params4] at hA hval
  obtain ⟨v0, vs0, d0, ds0, p0, q0, hargs, rfl, rfl, h0, r0⟩ := trodAll_cons hA
  obtain ⟨v1, vs1, d1, ds1, p1, q1, rfl, rfl, rfl, h1, r1⟩ := trodAll_cons r0
  obtain ⟨rfl, rfl, rfl⟩ := trodAll_nil r1
  obtain rfl : args = #[v0, v1] := by cases args; simp_all
  obtain ⟨rfl, rfl⟩ := trodVars_none hV
  obtain ⟨cs0, rfl, hcs0⟩ := okWide_struct Try.underlying26 (hval 0 26 v0 rfl rfl)
  have k0 := h0
  have lt0 : ∀ x ∈ p0, x.block < W.heap.size := by obtain ⟨m, hm⟩ := k0; exact DataW.trod_lt m _ _ _ hm
  obtain ⟨s0, hk0, w0⟩ : ∃ l, (QD.k26).K W l cs0.toList ∧ (((Lit.int .u16 l.f0).wf = true) ∧ ((Lit.int .u8 l.f1).wf = true) ∧ (l.f2.length ≤ maxLen ∧ ∀ x0 ∈ l.f2, (Lit.int .u8 x0).wf = true)) := by
    obtain ⟨fuel, hf⟩ := h0
    exact (show Opn.Opens Try.prog (QD.k26) 26 (fun l => ((Lit.int .u16 l.f0).wf = true) ∧ ((Lit.int .u8 l.f1).wf = true) ∧ (l.f2.length ≤ maxLen ∧ ∀ x0 ∈ l.f2, (Lit.int .u8 x0).wf = true)) from (Opn.opens_struct (fun x : QD.S26 => (x.f0, x.f1, x.f2)) (fun v => ⟨v.1, v.2.1, v.2.2⟩) (fun _ => rfl) Try.underlying26 (by kernel_rfl) (Opn.opensF_cons (a := 1) (Opn.opens_int Try.underlying24) rfl (by kernel_rfl) (Opn.opensF_cons (a := 1) (Opn.opens_int Try.underlying5) rfl (by kernel_rfl) (Opn.opensF_one (len := 1) (Opn.opens_slice Try.underlying22 (Opn.opens_int Try.underlying5) (by kernel_rfl)) rfl (by kernel_rfl)))))) _ _ _ _ _ _ _ _ _ hf
  obtain ⟨A0, cap0, hcl0, hc0, hr0⟩ := QD.k26_open hk0
  obtain rfl : cs0 = #[.int .u16 s0.f0, .int .u8 s0.f1, .slice A0 s0.f2.length cap0] := by rw [← hcl0]
  obtain ⟨A1, len1, cap1, rfl⟩ := okWide_slice Try.underlying22 (hval 1 22 v1 rfl rfl)
  have k1 := h1
  have lt1 : ∀ x ∈ p1, x.block < W.heap.size := by obtain ⟨m, hm⟩ := k1; exact DataW.trod_lt m _ _ _ hm
  obtain ⟨l1, ⟨A', c', e1, hc1, hr1⟩, w1⟩ : ∃ l, ((Kd.slice 5 (Kd.int .u8))).K W l [.slice A1 len1 cap1] ∧ (l.length ≤ maxLen ∧ ∀ x0 ∈ l, (Lit.int .u8 x0).wf = true) := by
    obtain ⟨fuel, hf⟩ := h1
    exact (show Opn.Opens Try.prog ((Kd.slice 5 (Kd.int .u8))) 22 (fun l => l.length ≤ maxLen ∧ ∀ x0 ∈ l, (Lit.int .u8 x0).wf = true) from (Opn.opens_slice Try.underlying22 (Opn.opens_int Try.underlying5) (by kernel_rfl))) _ _ _ _ _ _ _ _ _ hf
  obtain ⟨rfl, rfl, rfl⟩ : A1 = A' ∧ len1 = l1.length ∧ cap1 = c' := by injection e1 with e_ _; injection e_ with e1 e2 e3; exact ⟨e1, e2, e3⟩
  clear hA0 hval0 hsz0
  refine (tells_law s0 A0 cap0 _ _ l1 W ⟨u16_wf w0.1, byte_of w0.2.1, bytes_wf w0.2.2.2⟩ hr0 hc0 hr1 hc1 (bytes_wf w1.2)).mono fun e W' ⟨he, bel⟩ => ?_
  subst he
  exact ⟨_, rfl, _, _, _, [], _, [], hW', trodAll_mk1 (shut_bool Try.underlying4 _), (trodAll_cons_mk (Below.trod laidOut (by kernel_rfl) (of_decide_eq_true (by kernel_rfl)) k0 bel lt0) (trodAll_cons_mk (Below.trod laidOut (by kernel_rfl) (of_decide_eq_true (by kernel_rfl)) k1 bel lt1) trodAll_mk0)), rfl, bel.frame _, fun h => by cases h⟩
theorem over : Rows.mbapTellsRow.holds Try.pinned (OpenSpec.ofChange Rows.mbapTellsSpec) :=
  OpenClaim.holds_of_wide 4 Try.f4 rfl rfl rfl rfl rfl rfl rfl ⟨rfl, rfl, rfl, rfl, rfl⟩ rfl rfl rfl rfl rfl (by kernel_rfl) Try.func4 (by kernel_rfl)
    (of_decide_eq_true (by kernel_rfl)) (by unfold Func.isWrapper; first | (rw [if_pos (by decide +kernel)]; kernel_rfl) | (rw [if_neg (by decide +kernel)]; exact ⟨rfl, rfl⟩))
    (fun os started H enc _ => lifted os started H enc)
theorem proved : Rows.MbapTellsSaid := over
#print axioms proved
end Go.Proofs.Ytkmmkoiibcdmeaa.mbapTells
namespace Go.Proofs.Ytkmmkoiibcdmeaa
theorem mbapTells_holds : Rows.MbapTellsSaid := mbapTells.proved
end Go.Proofs.Ytkmmkoiibcdmeaa
