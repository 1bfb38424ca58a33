/- The head of a frame, whatever follows: plain mathematics. -/
import Derived.Test.YtkmmkoiibcdmeaaQC1
namespace Go.Proofs.Ytkmmkoiibcdmeaa
open Go.RowKit Go.Proofs.YtkmmkoiibcdmeaaW.PrintWords Go.Proofs.YtkmmkoiibcdmeaaW.PrintLast
theorem bytes_wf {l : List Int} (h : ∀ x ∈ l, (Lit.int .u8 x).wf = true) : Bytes l := fun x hx => by
  have := h x hx
  simp only [Lit.wf, IntKind.min, IntKind.max, IntKind.signed, IntKind.bits, Bool.and_eq_true, decide_eq_true_eq, Bool.false_eq_true, if_false] at this
  omega
theorem bytes_all {l : List Int} (h : Bytes l) : l.all isByte = true := List.all_eq_true.2 fun x hx => by
  have := h x hx; simpa [isByte] using this
theorem bytes_append {l m : List Int} (h : Bytes l) (k : Bytes m) : Bytes (l ++ m) := fun x hx => (List.mem_append.1 hx).elim (h x) (k x)
theorem headOf_append (a b : List Int) : headOf (a ++ b) = headOf a ++ (b.take (4 - a.length)).drop (2 - (a.take 4).length) := by
  unfold headOf; rw [List.take_append, List.drop_append]
theorem headOf_long (a b : List Int) (h : 4 ≤ a.length) : headOf (a ++ b) = headOf a := by
  rw [headOf_append, show 4 - a.length = 0 by omega]; simp
theorem zeros_append {a b : List Int} (h : a ++ b = List.replicate (a ++ b).length 0) : a = List.replicate a.length 0 := by
  have := congrArg (List.take a.length) h
  rw [List.take_left, List.take_replicate, List.length_append, Nat.min_eq_left (by omega)] at this
  exact this
theorem rd_append (a b : List Int) (i : Nat) (h : i < a.length) : rd (a ++ b) i = rd a i := by
  unfold rd; simp [List.getD_eq_getElem?_getD, List.getElem?_append_left h]
theorem w16_append (a b : List Int) (h : 2 ≤ a.length) : w16 (a ++ b) = w16 a := by
  have h0 : rd (a ++ b) 0 = rd a 0 := rd_append a b 0 (by omega)
  have h1 : rd (a ++ b) 1 = rd a 1 := rd_append a b 1 (by omega)
  unfold w16; rw [h0, h1]
theorem n16_append (a b : List Int) (h : 6 ≤ a.length) : n16 (a ++ b) = n16 a := by
  unfold n16; rw [List.drop_append_of_le_length (by omega), w16_append _ _ (by rw [List.length_drop]; omega)]
/-- What a frame's beginning tells is told whatever follows. -/
theorem first_more (a b : List Int) : (((firstOf a).2.2.2.2 ≠ 0 → (firstOf a).2.2.2.1 = 0 ∧ (firstOf (a ++ b)).2.2.2.1 = 0 ∧ (firstOf (a ++ b)).2.2.2.2 = (firstOf a).2.2.2.2) ∧
    ((firstOf a).2.2.2.2 = 0 → (firstOf a).2.2.2.1 ≠ 0 → (firstOf (a ++ b)).2.2.2.1 = (firstOf a).2.2.2.1 ∧ (firstOf (a ++ b)).2.2.2.2 = 0)) := by
  by_cases hz : headOf a = List.replicate (headOf a).length 0
  · by_cases h6 : a.length < 6
    · have e : firstOf a = (0, 0, [], 0, 0) := by unfold firstOf; rw [if_pos hz, if_pos h6]
      rw [e]; exact ⟨fun h => absurd rfl h, fun _ h => absurd rfl h⟩
    · have e4 : headOf (a ++ b) = headOf a := headOf_long a b (by omega)
      have en : n16 (a ++ b) = n16 a := n16_append a b (by omega)
      have hl : ¬ (a ++ b).length < 6 := by rw [List.length_append]; omega
      by_cases h2 : n16 a < 2
      · have e : firstOf a = (0, 0, [], 0, 31) := by unfold firstOf; rw [if_pos hz, if_neg h6, if_pos h2]
        have e' : firstOf (a ++ b) = (0, 0, [], 0, 31) := by unfold firstOf; rw [e4, if_pos hz, if_neg hl, en, if_pos h2]
        rw [e, e']; exact ⟨fun _ => ⟨rfl, rfl, rfl⟩, fun h => absurd h (by decide)⟩
      by_cases h254 : 254 < n16 a
      · have e : firstOf a = (0, 0, [], 0, 31) := by unfold firstOf; rw [if_pos hz, if_neg h6, if_neg h2, if_pos h254]
        have e' : firstOf (a ++ b) = (0, 0, [], 0, 31) := by unfold firstOf; rw [e4, if_pos hz, if_neg hl, en, if_neg h2, if_pos h254]
        rw [e, e']; exact ⟨fun _ => ⟨rfl, rfl, rfl⟩, fun h => absurd h (by decide)⟩
      by_cases hs : (a.length : Int) < 6 + n16 a
      · have e : firstOf a = (0, 0, [], 0, 0) := by unfold firstOf; rw [if_pos hz, if_neg h6, if_neg h2, if_neg h254, if_pos hs]
        rw [e]; exact ⟨fun h => absurd rfl h, fun _ h => absurd rfl h⟩
      · have e : (firstOf a).2.2.2 = (6 + n16 a, 0) := by unfold firstOf; rw [if_pos hz, if_neg h6, if_neg h2, if_neg h254, if_neg hs]
        have hs' : ¬ ((a ++ b).length : Int) < 6 + n16 a := by rw [List.length_append]; omega
        have e' : (firstOf (a ++ b)).2.2.2 = (6 + n16 a, 0) := by unfold firstOf; rw [e4, if_pos hz, if_neg hl, en, if_neg h2, if_neg h254, if_neg hs']
        rw [e, e']; exact ⟨fun h => absurd rfl h, fun _ _ => ⟨rfl, rfl⟩⟩
  · have e : firstOf a = (0, 0, [], 0, 31) := by unfold firstOf; rw [if_neg hz]
    have hz' : ¬ headOf (a ++ b) = List.replicate (headOf (a ++ b)).length 0 := fun h => hz (by rw [headOf_append] at h; exact zeros_append h)
    have e' : firstOf (a ++ b) = (0, 0, [], 0, 31) := by unfold firstOf; rw [if_neg hz']
    rw [e, e']; exact ⟨fun _ => ⟨rfl, rfl, rfl⟩, fun h => absurd h (by decide)⟩
end Go.Proofs.Ytkmmkoiibcdmeaa
namespace Go.Proofs.Ytkmmkoiibcdmeaa.Pure
open Go.RowKit Go.Proofs.Ytkmmkoiibcdmeaa.QC Go.Proofs.YtkmmkoiibcdmeaaW.PrintWords Go.Proofs.YtkmmkoiibcdmeaaW.PrintLast
theorem first_f {l : List Int} (h : Bytes l) (hn : l.length ≤ 1000000) : mbap_First.f l = some (firstOf l) := by
  unfold mbap_First.f; rw [if_pos ⟨hn, bytes_all h⟩]
theorem MbapHead : watchkeeperlaw03_MbapHead.Pure := by
  intro l0 l1 _ _ hw0 _ _ hw1
  have h0 := bytes_wf hw0
  have h1 := bytes_wf hw1
  refine ⟨1, ?_⟩
  unfold watchkeeperlaw03_MbapHead.f
  rw [show watchkeeperlaw03_head.f = some true from rfl, Option.bind_some]
  have hj : ∀ b, watchkeeperlaw03_MbapHead.j0 1 l0 l1 true b = some true ∨ b = false := fun b => by
    cases b with
    | true => left; simp only [watchkeeperlaw03_MbapHead.j0]; rfl
    | false => right; rfl
  by_cases h3 : (l0.length : Int) > 300
  · rw [if_pos h3]; exact (hj true).resolve_right (by decide)
  rw [if_neg h3]
  by_cases h30 : (l1.length : Int) > 3000
  · rw [decide_eq_true h30]; exact (hj true).resolve_right (by decide)
  rw [decide_eq_false h30]
  obtain ⟨f1, f2⟩ := first_more l0 l1
  simp only [watchkeeperlaw03_MbapHead.j0]
  rw [if_neg (by decide), first_f h0 (by omega), Option.bind_some, Option.bind_some, if_pos (by simp; omega), Option.bind_some, List.nil_append, if_pos (by omega), first_f (bytes_append h0 h1) (by rw [List.length_append]; omega), Option.bind_some]
  by_cases e0 : (firstOf l0).2.2.2.2 = 0
  · rw [if_pos e0, if_pos trivial]
    by_cases n0 : (firstOf l0).2.2.2.1 = 0
    · rw [if_pos n0]
    · rw [if_neg n0, if_pos (f2 e0 n0).1, (f2 e0 n0).2]; rfl
  · obtain ⟨g1, g2, g3⟩ := f1 e0
    rw [if_neg e0, if_pos trivial, if_pos g3, if_pos g1, g2]; rfl
end Go.Proofs.Ytkmmkoiibcdmeaa.Pure
