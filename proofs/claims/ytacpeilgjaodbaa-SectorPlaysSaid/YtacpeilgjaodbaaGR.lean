/- Great: is it too much? -/
import Derived.Test.YtacpeilgjaodbaaP1
import Derived.Test.YtacpeilgjaodbaaQA1
namespace Go.Proofs.Ytacpeilgjaodbaa
open Go.RowKit Go.Proofs.YtacpeilgjaodbaaW.PrintWords Go.Proofs.YtacpeilgjaodbaaW.PrintLast Go.Proofs.YtacpeilgjaodbaaW.PrintMore
set_option linter.unusedVariables false
set_option linter.unusedSimpArgs false
theorem great_l (xs : List QA.S31) : ∀ (m i : Nat) (n : Int), i + m = xs.length → (xs.length : Int) ≤ n → (n < 30000 → ∀ j, j < i → (QA.rd_T31 xs (j : Nat)).f3.length < 30000) →
    ∃ k r, QA.watchkeeperlaw10_Great.l0 k xs n (i : Nat) = some r ∧ (r = false → xs.length ≤ 400 ∧ ∀ j, j < xs.length → (QA.rd_T31 xs (j : Nat)).f3.length < 30000) := by
  intro m
  induction m with
  | zero =>
    intro i n hi hn hj
    by_cases h3 : n ≥ 30000
    · exact ⟨0 + 1, true, by rw [QA.watchkeeperlaw10_Great.l0, if_neg (by omega), if_pos h3], fun h => by cases h⟩
    · refine ⟨0 + 1, decide ((xs.length : Int) > 400), by rw [QA.watchkeeperlaw10_Great.l0, if_neg (by omega), if_neg h3], fun h => ?_⟩
      have := of_decide_eq_false h
      exact ⟨by omega, fun j h2 => hj (by omega) j (by omega)⟩
  | succ m ih =>
    intro i n hi hn hj
    by_cases h2 : n < 30000
    · obtain ⟨b, hb⟩ : ∃ b, (QA.rd_T31 xs (i : Nat)).f3.length = b := ⟨_, rfl⟩
      have hmn : mn (b : Int) 30000 = (min b 30000 : Nat) := by unfold mn; split <;> omega
      obtain ⟨k, r, h, hr⟩ := ih (i + 1) (n + (min b 30000 : Nat)) (by omega) (by omega) (fun h3 j hj2 => by
        by_cases e : j = i
        · subst e; rw [hb]; omega
        · exact hj h2 j (by omega))
      refine ⟨k + 1, r, ?_, hr⟩
      have w1 : wrap64 (n + (min b 30000 : Nat)) = n + (min b 30000 : Nat) := by unfold wrap64; omega
      have w2 : wrap64 ((i : Int) + 1) = ((i + 1 : Nat) : Int) := by clear w1; unfold wrap64; omega
      rw [QA.watchkeeperlaw10_Great.l0, if_pos (by clear w1 w2; omega), if_pos h2, if_pos (by clear w1 w2; omega), hb, hmn, w1, w2]
      exact h
    · exact ⟨0 + 1, true, by rw [QA.watchkeeperlaw10_Great.l0, if_pos (by omega), if_neg h2, if_pos (by omega)], fun h => by cases h⟩
theorem great_any (A : Option Addr) (c : Nat) (xs : List QA.S31) (w : World) (hr : Kd.C QA.k31 w A xs.length xs) (hc : xs.length ≤ c) :
    Calls Try.prog 11 #[.slice A xs.length c] w fun e w' => ∃ r, e = .returned (.bool r) ∧ (r = false → xs.length ≤ 400 ∧ ∀ j, j < xs.length → (QA.rd_T31 xs (j : Nat)).f3.length < 30000) ∧ Below w.heap.size w w' := by
  obtain ⟨k, r, h, hr2⟩ := great_l xs xs.length 0 (xs.length : Int) (by omega) (by omega) (fun _ j hj => absurd hj (by omega))
  refine (QA.watchkeeperlaw10_Great.calls k A c xs r w hr hc h).mono ?_
  rintro e w' ⟨rfl, hb⟩
  exact ⟨r, rfl, hr2, hb⟩
theorem bytes_wf {l : List Int} (h : ∀ x ∈ l, (Lit.int .u8 x).wf = true) : Bytes l := by
  intro x hx
  have := h x hx
  simp only [Lit.wf, IntKind.min, IntKind.max, IntKind.signed, IntKind.bits, Bool.and_eq_true, decide_eq_true_eq, Bool.false_eq_true, if_false] at this
  omega
/-- What is known of the calls. -/
structure Ops (l : List QA.S31) : Prop where
  len : l.length ≤ maxLen
  at63 : ∀ i, i < l.length → (QA.rd_T31 l ((i : Nat) : Int)).f1 ≤ 9223372036854775807
  byt : ∀ i, i < l.length → Bytes (QA.rd_T31 l ((i : Nat) : Int)).f3
theorem ops_of {l : List QA.S31} (hw : l.length ≤ maxLen ∧ ∀ x0 ∈ l, ((Lit.int .i64 x0.f0).wf = true) ∧ ((Lit.int .i64 x0.f1).wf = true) ∧ ((Lit.int .i64 x0.f2).wf = true) ∧ (x0.f3.length ≤ maxLen ∧ ∀ x1 ∈ x0.f3, (Lit.int .u8 x1).wf = true)) : Ops l := by
  have e : ∀ i (hi : i < l.length), QA.rd_T31 l ((i : Nat) : Int) = l[i] := fun i hi => by unfold QA.rd_T31; simp [List.getD_eq_getElem?_getD, List.getElem?_eq_getElem hi]
  refine ⟨hw.1, fun i hi => ?_, fun i hi => ?_⟩
  · rw [e i hi]
    have := (hw.2 _ (List.getElem_mem hi)).2.1
    simp only [Lit.wf, IntKind.min, IntKind.max, IntKind.signed, IntKind.bits, Bool.and_eq_true, decide_eq_true_eq, if_true] at this
    omega
  · rw [e i hi]
    exact bytes_wf (hw.2 _ (List.getElem_mem hi)).2.2.2.2
end Go.Proofs.Ytacpeilgjaodbaa
