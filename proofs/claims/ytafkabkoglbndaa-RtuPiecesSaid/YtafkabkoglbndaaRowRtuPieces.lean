/- The row of the law RtuPieces: for every input it returns true and leaves its arguments as they were. -/
import Derived.Test.YtafkabkoglbndaaRows
import Derived.Test.YtafkabkoglbndaaPI1
import Derived.Test.YtafkabkoglbndaaOpen
import Derived.WalkKit
import Derived.ProofKit
import Derived.OpenShut
import Derived.ShutString
import Derived.ChangeOld
import Derived.Below
import Derived.SizedLaws
import Derived.Test.YtafkabkoglbndaaWSized
namespace Go.Proofs.Ytafkabkoglbndaa.rtuPieces
open Go.ChangeShapes Go.WideShapes Go.ChangeAt Go.RowKit Go.Proofs.YtafkabkoglbndaaW.PrintWords Go.Proofs.YtafkabkoglbndaaW.PrintLast
open Go.ChangeMaps (open_string shut_string)
set_option linter.unusedVariables false
theorem own : ownKnob Try.prog.godebug = none := by kernel_rfl
theorem laidOut : laidOutB Try.prog = true := by kernel_rfl
set_option maxRecDepth 100000 in
theorem lifted (os : Os) (started : os.Started) (H : Type) (enc : TypeId × Value → H) :
    ReturnsInHanded {} Try.checked os 6 .any (Rows.rtuPiecesSpec.pre6 enc Try.prog Try.f6 Rows.rtuPiecesRow.domain false) (Rows.rtuPiecesSpec.post enc Try.prog Try.f6 false true false false) := by
  refine returnsInHanded_of_change_sized (C := Try.checked) own started (by kernel_rfl) Try.func6
    (ChangeSpec.witness6 (enc := enc) (C := Try.checked) false ⟨#[], #[.slice none 0 0, .slice none 0 0, .slice none 0 0], []⟩ 8 (by kernel_rfl) (by kernel_rfl) (by kernel_rfl) (by kernel_rfl)) ?_
  intro W base args ds gs before hval0 hW hcnd hsz0 _
  have hsz : (DataW.weightsEach Try.prog (Try.f6.params.toList ++ Rows.rtuPiecesSpec.plain.varTypes Try.prog) (ds ++ gs)).all (· ≤ reachBytes) = true := hsz0
  have hval : ∀ (j : Nat) t v, Try.f6.params[j]? = some t → args[j]? = some v → Value.okWide Try.prog W .any base t v := hval0
  have hW' := hW
  obtain ⟨p, q, hA0, hV, rfl, hfz, hnd⟩ := hW
  have hA : DataW.TrodAll enc Try.prog W 0 (fun _ => true) true Try.f6.params.toList args.toList ds p := hA0
  rw [Try.params6] at hA hval hsz
  obtain ⟨v0, vs0, d0, ds0, p0, q0, hargs, rfl, rfl, h0, r0⟩ := trodAll_cons hA
  obtain ⟨v1, vs1, d1, ds1, p1, q1, rfl, rfl, rfl, h1, r1⟩ := trodAll_cons r0
  obtain ⟨v2, vs2, d2, ds2, p2, q2, rfl, rfl, rfl, h2, r2⟩ := trodAll_cons r1
  obtain ⟨rfl, rfl, rfl⟩ := trodAll_nil r2
  obtain rfl : args = #[v0, v1, v2] := by cases args; simp_all
  obtain ⟨rfl, rfl⟩ := trodVars_none hV
  obtain ⟨A0, len0, cap0, rfl⟩ := okWide_slice Try.underlying22 (hval 0 22 v0 rfl rfl)
  have k0 := h0
  have lt0 : ∀ x ∈ p0, x.block < W.heap.size := by obtain ⟨m, hm⟩ := k0; exact DataW.trod_lt m _ _ _ hm
  have y0 : len0 * 1 ≤ 140737488351232 := Go.Proofs.YtafkabkoglbndaaW.PrintWords.sized_ints hsz (j := 0) (t := 22) rfl rfl Try.underlying22 Try.underlying5 (by kernel_rfl) (by kernel_rfl) h0
  obtain ⟨l0, ⟨A', c', e0, hc0, hr0⟩, w0⟩ : ∃ l, ((Kd.slice 5 (Kd.int .u8))).K W l [.slice A0 len0 cap0] ∧ (l.length ≤ maxLen ∧ ∀ x0 ∈ l, (Lit.int .u8 x0).wf = true) := by
    obtain ⟨fuel, hf⟩ := h0
    exact (show Opn.Opens Try.prog ((Kd.slice 5 (Kd.int .u8))) 22 (fun l => l.length ≤ maxLen ∧ ∀ x0 ∈ l, (Lit.int .u8 x0).wf = true) from (Opn.opens_slice Try.underlying22 (Opn.opens_int Try.underlying5) (by kernel_rfl))) _ _ _ _ _ _ _ _ _ hf
  obtain ⟨rfl, rfl, rfl⟩ : A0 = A' ∧ len0 = l0.length ∧ cap0 = c' := by injection e0 with e_ _; injection e_ with e1 e2 e3; exact ⟨e1, e2, e3⟩
  obtain ⟨A1, len1, cap1, rfl⟩ := okWide_slice Try.underlying22 (hval 1 22 v1 rfl rfl)
  have k1 := h1
  have lt1 : ∀ x ∈ p1, x.block < W.heap.size := by obtain ⟨m, hm⟩ := k1; exact DataW.trod_lt m _ _ _ hm
  have y1 : len1 * 1 ≤ 140737488351232 := Go.Proofs.YtafkabkoglbndaaW.PrintWords.sized_ints hsz (j := 1) (t := 22) rfl rfl Try.underlying22 Try.underlying5 (by kernel_rfl) (by kernel_rfl) h1
  obtain ⟨l1, ⟨A', c', e1, hc1, hr1⟩, w1⟩ : ∃ l, ((Kd.slice 5 (Kd.int .u8))).K W l [.slice A1 len1 cap1] ∧ (l.length ≤ maxLen ∧ ∀ x0 ∈ l, (Lit.int .u8 x0).wf = true) := by
    obtain ⟨fuel, hf⟩ := h1
    exact (show Opn.Opens Try.prog ((Kd.slice 5 (Kd.int .u8))) 22 (fun l => l.length ≤ maxLen ∧ ∀ x0 ∈ l, (Lit.int .u8 x0).wf = true) from (Opn.opens_slice Try.underlying22 (Opn.opens_int Try.underlying5) (by kernel_rfl))) _ _ _ _ _ _ _ _ _ hf
  obtain ⟨rfl, rfl, rfl⟩ : A1 = A' ∧ len1 = l1.length ∧ cap1 = c' := by injection e1 with e_ _; injection e_ with e1 e2 e3; exact ⟨e1, e2, e3⟩
  obtain ⟨A2, len2, cap2, rfl⟩ := okWide_slice Try.underlying22 (hval 2 22 v2 rfl rfl)
  have k2 := h2
  have lt2 : ∀ x ∈ p2, x.block < W.heap.size := by obtain ⟨m, hm⟩ := k2; exact DataW.trod_lt m _ _ _ hm
  have y2 : len2 * 1 ≤ 140737488351232 := Go.Proofs.YtafkabkoglbndaaW.PrintWords.sized_ints hsz (j := 2) (t := 22) rfl rfl Try.underlying22 Try.underlying5 (by kernel_rfl) (by kernel_rfl) h2
  obtain ⟨l2, ⟨A', c', e2, hc2, hr2⟩, w2⟩ : ∃ l, ((Kd.slice 5 (Kd.int .u8))).K W l [.slice A2 len2 cap2] ∧ (l.length ≤ maxLen ∧ ∀ x0 ∈ l, (Lit.int .u8 x0).wf = true) := by
    obtain ⟨fuel, hf⟩ := h2
    exact (show Opn.Opens Try.prog ((Kd.slice 5 (Kd.int .u8))) 22 (fun l => l.length ≤ maxLen ∧ ∀ x0 ∈ l, (Lit.int .u8 x0).wf = true) from (Opn.opens_slice Try.underlying22 (Opn.opens_int Try.underlying5) (by kernel_rfl))) _ _ _ _ _ _ _ _ _ hf
  obtain ⟨rfl, rfl, rfl⟩ : A2 = A' ∧ len2 = l2.length ∧ cap2 = c' := by injection e2 with e_ _; injection e_ with e1 e2 e3; exact ⟨e1, e2, e3⟩
  clear hA0 hval0 hsz0
  refine (pieces_any _ _ l0 _ _ l1 _ _ l2 W hr0 hc0 w0 y0 hr1 hc1 w1 y1 hr2 hc2 w2 y2).mono fun e W' ⟨he, bel⟩ => ?_
  subst he
  exact ⟨_, rfl, _, _, _, [], _, [], hW', trodAll_mk1 (shut_bool Try.underlying4 _), (trodAll_cons_mk (Below.trod laidOut (by kernel_rfl) (of_decide_eq_true (by kernel_rfl)) k0 bel lt0) (trodAll_cons_mk (Below.trod laidOut (by kernel_rfl) (of_decide_eq_true (by kernel_rfl)) k1 bel lt1) (trodAll_cons_mk (Below.trod laidOut (by kernel_rfl) (of_decide_eq_true (by kernel_rfl)) k2 bel lt2) trodAll_mk0))), rfl, bel.frame _, fun h => by cases h⟩
theorem over : Rows.rtuPiecesRow.holds Try.pinned (OpenSpec.ofChange Rows.rtuPiecesSpec) :=
  OpenClaim.holds_of_wide 6 Try.f6 rfl rfl rfl rfl rfl rfl rfl ⟨rfl, rfl, rfl, rfl, rfl⟩ rfl rfl rfl rfl rfl (by kernel_rfl) Try.func6 (by kernel_rfl)
    (of_decide_eq_true (by kernel_rfl)) (by unfold Func.isWrapper; first | (rw [if_pos (by decide +kernel)]; kernel_rfl) | (rw [if_neg (by decide +kernel)]; exact ⟨rfl, rfl⟩))
    (fun os started H enc _ => lifted os started H enc)
theorem proved : Rows.RtuPiecesSaid := over
#print axioms proved
end Go.Proofs.Ytafkabkoglbndaa.rtuPieces
namespace Go.Proofs.Ytafkabkoglbndaa
theorem rtuPieces_holds : Rows.RtuPiecesSaid := rtuPieces.proved
end Go.Proofs.Ytafkabkoglbndaa
