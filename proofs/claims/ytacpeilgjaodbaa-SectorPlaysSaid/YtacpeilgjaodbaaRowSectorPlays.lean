/- The row of the law SectorPlays: for every input it returns true and leaves its arguments as they were. -/
import Derived.Test.YtacpeilgjaodbaaRows
import Derived.Test.YtacpeilgjaodbaaC5
import Derived.Test.YtacpeilgjaodbaaOpen
import Derived.WalkKit
import Derived.ProofKit
import Derived.OpenShut
import Derived.ShutString
import Derived.ChangeOld
import Derived.Below
import Derived.SizedLaws
namespace Go.Proofs.Ytacpeilgjaodbaa.sectorPlays
open Go.ChangeShapes Go.WideShapes Go.ChangeAt Go.RowKit Go.Proofs.YtacpeilgjaodbaaW.PrintWords Go.Proofs.YtacpeilgjaodbaaW.PrintLast
open Go.ChangeMaps (open_string shut_string)
set_option linter.unusedVariables false
theorem own : ownKnob Try.prog.godebug = none := by kernel_rfl
theorem laidOut : laidOutB Try.prog = true := by kernel_rfl
set_option maxRecDepth 100000 in
theorem lifted (os : Os) (started : os.Started) (H : Type) (enc : TypeId × Value → H) :
    ReturnsInHanded {} Try.checked os 3 .any (Rows.sectorPlaysSpec.pre6 enc Try.prog Try.f3 Rows.sectorPlaysRow.domain false) (Rows.sectorPlaysSpec.post enc Try.prog Try.f3 false true false false) := by
  refine returnsInHanded_of_change_sized (C := Try.checked) own started (by kernel_rfl) Try.func3
    (ChangeSpec.witness6 (enc := enc) (C := Try.checked) false ⟨#[], #[.int .i64 0, .slice none 0 0], []⟩ 8 (by kernel_rfl) (by kernel_rfl) (by kernel_rfl) (by kernel_rfl)) ?_
  intro W base args ds gs before hval0 hW hcnd hsz0 _
  have hval : ∀ (j : Nat) t v, Try.f3.params[j]? = some t → args[j]? = some v → Value.okWide Try.prog W .any base t v := hval0
  have hW' := hW
  obtain ⟨p, q, hA0, hV, rfl, hfz, hnd⟩ := hW
  have hA : DataW.TrodAll enc Try.prog W 0 (fun _ => true) true Try.f3.params.toList args.toList ds p := hA0
  rw [Try.params3] at hA hval
  obtain ⟨v0, vs0, d0, ds0, p0, q0, hargs, rfl, rfl, h0, r0⟩ := trodAll_cons hA
  obtain ⟨v1, vs1, d1, ds1, p1, q1, rfl, rfl, rfl, h1, r1⟩ := trodAll_cons r0
  obtain ⟨rfl, rfl, rfl⟩ := trodAll_nil r1
  obtain rfl : args = #[v0, v1] := by cases args; simp_all
  obtain ⟨rfl, rfl⟩ := trodVars_none hV
  obtain ⟨a0, rfl, rfl, rfl, w0⟩ := open_int Try.underlying3 (hval 0 3 v0 rfl rfl) h0
  obtain ⟨A1, len1, cap1, rfl⟩ := okWide_slice Try.underlying22 (hval 1 22 v1 rfl rfl)
  have k1 := h1
  have lt1 : ∀ x ∈ p1, x.block < W.heap.size := by obtain ⟨m, hm⟩ := k1; exact DataW.trod_lt m _ _ _ hm
  obtain ⟨l1, ⟨A', c', e1, hc1, hr1⟩, w1⟩ : ∃ l, ((Kd.slice 31 QA.k31)).K W l [.slice A1 len1 cap1] ∧ (l.length ≤ maxLen ∧ ∀ x0 ∈ l, ((Lit.int .i64 x0.f0).wf = true) ∧ ((Lit.int .i64 x0.f1).wf = true) ∧ ((Lit.int .i64 x0.f2).wf = true) ∧ (x0.f3.length ≤ maxLen ∧ ∀ x1 ∈ x0.f3, (Lit.int .u8 x1).wf = true)) := by
    obtain ⟨fuel, hf⟩ := h1
    exact (show Opn.Opens Try.prog ((Kd.slice 31 QA.k31)) 22 (fun l => l.length ≤ maxLen ∧ ∀ x0 ∈ l, ((Lit.int .i64 x0.f0).wf = true) ∧ ((Lit.int .i64 x0.f1).wf = true) ∧ ((Lit.int .i64 x0.f2).wf = true) ∧ (x0.f3.length ≤ maxLen ∧ ∀ x1 ∈ x0.f3, (Lit.int .u8 x1).wf = true)) from (Opn.opens_slice Try.underlying22 (Opn.opens_struct (fun x : QA.S31 => (x.f0, x.f1, x.f2, x.f3)) (fun v => ⟨v.1, v.2.1, v.2.2.1, v.2.2.2⟩) (fun _ => rfl) Try.underlying31 (by kernel_rfl) (Opn.opensF_cons (a := 1) (Opn.opens_int Try.underlying3) rfl (by kernel_rfl) (Opn.opensF_cons (a := 1) (Opn.opens_int Try.underlying3) rfl (by kernel_rfl) (Opn.opensF_cons (a := 1) (Opn.opens_int Try.underlying3) rfl (by kernel_rfl) (Opn.opensF_one (len := 1) (Opn.opens_slice Try.underlying29 (Opn.opens_int Try.underlying5) (by kernel_rfl)) rfl (by kernel_rfl)))))) (by kernel_rfl))) _ _ _ _ _ _ _ _ _ hf
  obtain ⟨rfl, rfl, rfl⟩ : A1 = A' ∧ len1 = l1.length ∧ cap1 = c' := by injection e1 with e_ _; injection e_ with e1 e2 e3; exact ⟨e1, e2, e3⟩
  clear hA0 hval0 hsz0
  refine (plays_law a0 _ _ l1 W w0 hr1 hc1 w1).mono fun e W' ⟨he, bel⟩ => ?_
  subst he
  exact ⟨_, rfl, _, _, _, [], _, [], hW', trodAll_mk1 (shut_bool Try.underlying4 _), (trodAll_cons_mk (shut_int Try.underlying3 w0) (trodAll_cons_mk (Below.trod laidOut (by kernel_rfl) (of_decide_eq_true (by kernel_rfl)) k1 bel lt1) trodAll_mk0)), rfl, bel.frame _, fun h => by cases h⟩
theorem over : Rows.sectorPlaysRow.holds Try.pinned (OpenSpec.ofChange Rows.sectorPlaysSpec) :=
  OpenClaim.holds_of_wide 3 Try.f3 rfl rfl rfl rfl rfl rfl rfl ⟨rfl, rfl, rfl, rfl, rfl⟩ rfl rfl rfl rfl rfl (by kernel_rfl) Try.func3 (by kernel_rfl)
    (of_decide_eq_true (by kernel_rfl)) (by unfold Func.isWrapper; first | (rw [if_pos (by decide +kernel)]; kernel_rfl) | (rw [if_neg (by decide +kernel)]; exact ⟨rfl, rfl⟩))
    (fun os started H enc _ => lifted os started H enc)
theorem proved : Rows.SectorPlaysSaid := over
#print axioms proved
end Go.Proofs.Ytacpeilgjaodbaa.sectorPlays
namespace Go.Proofs.Ytacpeilgjaodbaa
theorem sectorPlays_holds : Rows.SectorPlaysSaid := sectorPlays.proved
end Go.Proofs.Ytacpeilgjaodbaa
