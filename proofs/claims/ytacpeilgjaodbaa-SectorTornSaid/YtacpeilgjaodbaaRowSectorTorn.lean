/- The row of the law SectorTorn: for every input it returns true and leaves its arguments as they were. -/
import Derived.Test.YtacpeilgjaodbaaRows
import Derived.Test.YtacpeilgjaodbaaC4
import Derived.Test.YtacpeilgjaodbaaOpen
import Derived.WalkKit
import Derived.ProofKit
import Derived.OpenShut
import Derived.ShutString
import Derived.ChangeOld
import Derived.Below
import Derived.SizedLaws
namespace Go.Proofs.Ytacpeilgjaodbaa.sectorTorn
open Go.ChangeShapes Go.WideShapes Go.ChangeAt Go.RowKit Go.Proofs.YtacpeilgjaodbaaW.PrintWords Go.Proofs.YtacpeilgjaodbaaW.PrintLast
open Go.ChangeMaps (open_string shut_string)
set_option linter.unusedVariables false
theorem own : ownKnob Try.prog.godebug = none := by kernel_rfl
theorem laidOut : laidOutB Try.prog = true := by kernel_rfl
set_option maxRecDepth 100000 in
theorem lifted (os : Os) (started : os.Started) (H : Type) (enc : TypeId × Value → H) :
    ReturnsInHanded {} Try.checked os 4 .any (Rows.sectorTornSpec.pre6 enc Try.prog Try.f4 Rows.sectorTornRow.domain false) (Rows.sectorTornSpec.post enc Try.prog Try.f4 false true false false) := by
  refine returnsInHanded_of_change_sized (C := Try.checked) own started (by kernel_rfl) Try.func4
    (ChangeSpec.witness6 (enc := enc) (C := Try.checked) false ⟨#[], #[.slice none 0 0, .slice none 0 0, .int .u8 0, .int .u8 0, .slice none 0 0], []⟩ 8 (by kernel_rfl) (by kernel_rfl) (by kernel_rfl) (by kernel_rfl)) ?_
  intro W base args ds gs before hval0 hW hcnd hsz0 _
  have hval : ∀ (j : Nat) t v, Try.f4.params[j]? = some t → args[j]? = some v → Value.okWide Try.prog W .any base t v := hval0
  have hW' := hW
  obtain ⟨p, q, hA0, hV, rfl, hfz, hnd⟩ := hW
  have hA : DataW.TrodAll enc Try.prog W 0 (fun _ => true) true Try.f4.params.toList args.toList ds p := hA0
  rw [Try.params4] at hA hval
  obtain ⟨v0, vs0, d0, ds0, p0, q0, hargs, rfl, rfl, h0, r0⟩ := trodAll_cons hA
  obtain ⟨v1, vs1, d1, ds1, p1, q1, rfl, rfl, rfl, h1, r1⟩ := trodAll_cons r0
  obtain ⟨v2, vs2, d2, ds2, p2, q2, rfl, rfl, rfl, h2, r2⟩ := trodAll_cons r1
  obtain ⟨v3, vs3, d3, ds3, p3, q3, rfl, rfl, rfl, h3, r3⟩ := trodAll_cons r2
  obtain ⟨v4, vs4, d4, ds4, p4, q4, rfl, rfl, rfl, h4, r4⟩ := trodAll_cons r3
  obtain ⟨rfl, rfl, rfl⟩ := trodAll_nil r4
  obtain rfl : args = #[v0, v1, v2, v3, v4] := by cases args; simp_all
  obtain ⟨rfl, rfl⟩ := trodVars_none hV
  obtain ⟨A0, len0, cap0, rfl⟩ := okWide_slice Try.underlying29 (hval 0 29 v0 rfl rfl)
  have k0 := h0
  have lt0 : ∀ x ∈ p0, x.block < W.heap.size := by obtain ⟨m, hm⟩ := k0; exact DataW.trod_lt m _ _ _ hm
  obtain ⟨l0, ⟨A', c', e0, hc0, hr0⟩, w0⟩ : ∃ l, ((Kd.slice 5 (Kd.int .u8))).K W l [.slice A0 len0 cap0] ∧ (l.length ≤ maxLen ∧ ∀ x0 ∈ l, (Lit.int .u8 x0).wf = true) := by
    obtain ⟨fuel, hf⟩ := h0
    exact (show Opn.Opens Try.prog ((Kd.slice 5 (Kd.int .u8))) 29 (fun l => l.length ≤ maxLen ∧ ∀ x0 ∈ l, (Lit.int .u8 x0).wf = true) from (Opn.opens_slice Try.underlying29 (Opn.opens_int Try.underlying5) (by kernel_rfl))) _ _ _ _ _ _ _ _ _ hf
  obtain ⟨rfl, rfl, rfl⟩ : A0 = A' ∧ len0 = l0.length ∧ cap0 = c' := by injection e0 with e_ _; injection e_ with e1 e2 e3; exact ⟨e1, e2, e3⟩
  obtain ⟨A1, len1, cap1, rfl⟩ := okWide_slice Try.underlying29 (hval 1 29 v1 rfl rfl)
  have k1 := h1
  have lt1 : ∀ x ∈ p1, x.block < W.heap.size := by obtain ⟨m, hm⟩ := k1; exact DataW.trod_lt m _ _ _ hm
  obtain ⟨l1, ⟨A', c', e1, hc1, hr1⟩, w1⟩ : ∃ l, ((Kd.slice 5 (Kd.int .u8))).K W l [.slice A1 len1 cap1] ∧ (l.length ≤ maxLen ∧ ∀ x0 ∈ l, (Lit.int .u8 x0).wf = true) := by
    obtain ⟨fuel, hf⟩ := h1
    exact (show Opn.Opens Try.prog ((Kd.slice 5 (Kd.int .u8))) 29 (fun l => l.length ≤ maxLen ∧ ∀ x0 ∈ l, (Lit.int .u8 x0).wf = true) from (Opn.opens_slice Try.underlying29 (Opn.opens_int Try.underlying5) (by kernel_rfl))) _ _ _ _ _ _ _ _ _ hf
  obtain ⟨rfl, rfl, rfl⟩ : A1 = A' ∧ len1 = l1.length ∧ cap1 = c' := by injection e1 with e_ _; injection e_ with e1 e2 e3; exact ⟨e1, e2, e3⟩
  obtain ⟨a2, rfl, rfl, rfl, w2⟩ := open_int Try.underlying5 (hval 2 5 v2 rfl rfl) h2
  obtain ⟨a3, rfl, rfl, rfl, w3⟩ := open_int Try.underlying5 (hval 3 5 v3 rfl rfl) h3
  obtain ⟨A4, len4, cap4, rfl⟩ := okWide_slice Try.underlying29 (hval 4 29 v4 rfl rfl)
  have k4 := h4
  have lt4 : ∀ x ∈ p4, x.block < W.heap.size := by obtain ⟨m, hm⟩ := k4; exact DataW.trod_lt m _ _ _ hm
  obtain ⟨l4, ⟨A', c', e4, hc4, hr4⟩, w4⟩ : ∃ l, ((Kd.slice 5 (Kd.int .u8))).K W l [.slice A4 len4 cap4] ∧ (l.length ≤ maxLen ∧ ∀ x0 ∈ l, (Lit.int .u8 x0).wf = true) := by
    obtain ⟨fuel, hf⟩ := h4
    exact (show Opn.Opens Try.prog ((Kd.slice 5 (Kd.int .u8))) 29 (fun l => l.length ≤ maxLen ∧ ∀ x0 ∈ l, (Lit.int .u8 x0).wf = true) from (Opn.opens_slice Try.underlying29 (Opn.opens_int Try.underlying5) (by kernel_rfl))) _ _ _ _ _ _ _ _ _ hf
  obtain ⟨rfl, rfl, rfl⟩ : A4 = A' ∧ len4 = l4.length ∧ cap4 = c' := by injection e4 with e_ _; injection e_ with e1 e2 e3; exact ⟨e1, e2, e3⟩
  clear hA0 hval0 hsz0
  refine (torn_law _ _ l0 _ _ l1 a2 a3 _ _ l4 W hr0 hc0 w0 hr1 hc1 w1 w2 w3 hr4 hc4 w4).mono fun e W' ⟨he, bel⟩ => ?_
  subst he
  exact ⟨_, rfl, _, _, _, [], _, [], hW', trodAll_mk1 (shut_bool Try.underlying4 _), (trodAll_cons_mk (Below.trod laidOut (by kernel_rfl) (of_decide_eq_true (by kernel_rfl)) k0 bel lt0) (trodAll_cons_mk (Below.trod laidOut (by kernel_rfl) (of_decide_eq_true (by kernel_rfl)) k1 bel lt1) (trodAll_cons_mk (shut_int Try.underlying5 w2) (trodAll_cons_mk (shut_int Try.underlying5 w3) (trodAll_cons_mk (Below.trod laidOut (by kernel_rfl) (of_decide_eq_true (by kernel_rfl)) k4 bel lt4) trodAll_mk0))))), rfl, bel.frame _, fun h => by cases h⟩
theorem over : Rows.sectorTornRow.holds Try.pinned (OpenSpec.ofChange Rows.sectorTornSpec) :=
  OpenClaim.holds_of_wide 4 Try.f4 rfl rfl rfl rfl rfl rfl rfl ⟨rfl, rfl, rfl, rfl, rfl⟩ rfl rfl rfl rfl rfl (by kernel_rfl) Try.func4 (by kernel_rfl)
    (of_decide_eq_true (by kernel_rfl)) (by unfold Func.isWrapper; first | (rw [if_pos (by decide +kernel)]; kernel_rfl) | (rw [if_neg (by decide +kernel)]; exact ⟨rfl, rfl⟩))
    (fun os started H enc _ => lifted os started H enc)
theorem proved : Rows.SectorTornSaid := over
#print axioms proved
end Go.Proofs.Ytacpeilgjaodbaa.sectorTorn
namespace Go.Proofs.Ytacpeilgjaodbaa
theorem sectorTorn_holds : Rows.SectorTornSaid := sectorTorn.proved
end Go.Proofs.Ytacpeilgjaodbaa
