/- The reference's first frame, and all frames: plain mathematics. -/
import Derived.Test.YtkmmkoiibcdmeaaBK
namespace Go.Proofs.Ytkmmkoiibcdmeaa
open Go.RowKit Go.Proofs.YtkmmkoiibcdmeaaW.PrintWords Go.Proofs.YtkmmkoiibcdmeaaW.PrintLast
set_option linter.unusedVariables false
set_option linter.unusedSimpArgs false
theorem n16_rd (l : List Int) : n16 l = rd l 4 * 256 + rd l 5 := by
  unfold n16 w16 rd
  simp [List.getD_eq_getElem?_getD]
theorem head_short {l : List Int} (h : l.length ≤ 2) : headOf l = [] := by
  unfold headOf; apply List.eq_nil_of_length_eq_zero; rw [List.length_drop, List.length_take]; omega
theorem head_three {l : List Int} (h : l.length = 3) : headOf l = [rd l 2] := by
  match l, h with
  | [a, b, c], _ => unfold headOf rd; simp
theorem head_four {l : List Int} (h : 4 ≤ l.length) : headOf l = [rd l 2, rd l 3] := by
  match l, h with
  | a :: b :: c :: d :: t, _ => unfold headOf rd; simp
theorem rj0_true (k : Nat) (l : List Int) : QD.watchkeeperref03_First.j0 (k + 2) l true = some (0, 0, [], 0, 31) := by
  rw [QD.watchkeeperref03_First.j0, if_pos rfl]
theorem word_ok {a b : Int} (ha : 0 ≤ a ∧ a ≤ 255) (hb : 0 ≤ b ∧ b ≤ 255) : wrap64 (wrap64 (256 * wrap64 a) + wrap64 b) = a * 256 + b := by
  have h1 : wrap64 a = a := by unfold wrap64; omega
  have h2 : wrap64 b = b := by clear h1; unfold wrap64; omega
  rw [h1, h2]
  clear h1 h2
  have h3 : wrap64 (256 * a) = 256 * a := by unfold wrap64; omega
  rw [h3]
  clear h3
  unfold wrap64; omega
theorem word_16 {a b : Int} (ha : 0 ≤ a ∧ a ≤ 255) (hb : 0 ≤ b ∧ b ≤ 255) : IntKind.u16.wrap (IntKind.u16.wrap (256 * IntKind.u16.wrap a) + IntKind.u16.wrap b) = a * 256 + b := by
  simp only [u16_wrap]
  omega
theorem rj0_false (k : Nat) {l : List Int} (hb : Bytes l) (hn : l.length ≤ 1000000) (hz : headOf l = List.replicate (headOf l).length 0) : QD.watchkeeperref03_First.j0 (k + 2) l false = some (firstOf l) := by
  rw [QD.watchkeeperref03_First.j0, if_neg (by decide)]
  by_cases h6 : l.length < 6
  · rw [if_pos (by omega)]; unfold firstOf; rw [if_pos hz, if_pos h6]
  have b4 : 0 ≤ rd l 4 ∧ rd l 4 ≤ 255 := rd_byte hb 4 (by omega)
  have b5 : 0 ≤ rd l 5 ∧ rd l 5 ≤ 255 := rd_byte hb 5 (by omega)
  rw [if_neg (by omega), if_pos (by omega), if_pos (by omega), word_ok b4 b5, ← n16_rd]
  have hnr := n16_rd l
  obtain ⟨n, hnn⟩ : ∃ n, n16 l = n := ⟨_, rfl⟩
  rw [hnn] at hnr ⊢
  have hn0 : 0 ≤ n ∧ n ≤ 65535 := by omega
  by_cases h2 : n < 2
  · rw [if_pos h2, QD.watchkeeperref03_First.j1, if_pos rfl]; unfold firstOf; rw [if_pos hz, if_neg h6, hnn, if_pos h2]
  by_cases h254 : 254 < n
  · rw [if_neg h2, decide_eq_true h254, QD.watchkeeperref03_First.j1, if_pos rfl]; unfold firstOf; rw [if_pos hz, if_neg h6, hnn, if_neg h2, if_pos h254]
  rw [if_neg h2, decide_eq_false h254, QD.watchkeeperref03_First.j1, if_neg (by decide)]
  have hw : wrap64 (6 + n) = 6 + n := by clear hnr; unfold wrap64; omega
  rw [hw]
  clear hw
  by_cases hs : (l.length : Int) < 6 + n
  · rw [if_pos hs]; unfold firstOf; rw [if_pos hz, if_neg h6, hnn, if_neg h2, if_neg h254, if_pos hs]
  have b0 : 0 ≤ rd l 0 ∧ rd l 0 ≤ 255 := rd_byte hb 0 (by omega)
  have b1 : 0 ≤ rd l 1 ∧ rd l 1 ≤ 255 := rd_byte hb 1 (by omega)
  rw [if_neg hs, if_pos (by omega), if_pos (by omega), if_pos (by omega), Option.bind_some, if_pos (by omega), if_pos (by omega), if_pos (by simp; omega), word_16 b0 b1]
  unfold firstOf
  rw [if_pos hz, if_neg h6, hnn, if_neg h2, if_neg h254, if_neg hs]
  rfl
theorem rfirst_f (k : Nat) {l : List Int} (hb : Bytes l) (hn : l.length ≤ 1000000) : QD.watchkeeperref03_First.f (k + 2) l = some (firstOf l) := by
  have hnz : ¬ headOf l = List.replicate (headOf l).length 0 → firstOf l = (0, 0, [], 0, 31) := fun h => by unfold firstOf; rw [if_neg h]
  unfold QD.watchkeeperref03_First.f
  by_cases h2 : l.length ≤ 2
  · rw [if_neg (by omega), if_neg (by omega)]
    exact rj0_false k hb hn (by rw [head_short h2]; rfl)
  rw [if_pos (by omega), if_pos (by omega)]
  by_cases h3 : l.length = 3
  · have hh := head_three h3
    by_cases z : rd l 2 = 0
    · rw [if_pos z, if_neg (by omega)]
      exact rj0_false k hb hn (by rw [hh, z]; rfl)
    · rw [if_neg z, rj0_true, hnz (by rw [hh]; simpa using z)]
  have hh := head_four (l := l) (by omega)
  by_cases z : rd l 2 = 0
  · rw [if_pos z, if_pos (by omega), if_pos (by omega)]
    by_cases z3 : rd l 3 = 0
    · rw [z3]
      exact rj0_false k hb hn (by rw [hh, z, z3]; rfl)
    · rw [bne_iff_ne.mpr z3, rj0_true, hnz (by rw [hh]; simp [z3])]
  · rw [if_neg z, rj0_true, hnz (by rw [hh]; simp [z])]
theorem rcut_l {l : List Int} (hb : Bytes l) (hn : l.length ≤ 1000000) {b : List Int} {xs : List QD.S26} {n : Nat} {e : Int} (h : Cuts b xs n e) : ∀ (at_ f : Nat) (out : List QD.S26), b = l.drop at_ → at_ ≤ l.length → out.length + xs.length ≤ l.length → xs.length + 3 ≤ f →
    QD.watchkeeperref03_Cut.l0 f l out (at_ : Int) = some (out ++ xs, ((at_ + n : Nat) : Int), e) := by
  induction h with
  | stop h =>
    intro at_ f out hbd ha ho hf
    subst hbd
    obtain ⟨f, rfl⟩ : ∃ g, f = g + 2 + 1 := ⟨f - 3, by simp at hf; omega⟩
    rw [QD.watchkeeperref03_Cut.l0, if_pos (by omega), if_pos (by omega), Int.toNat_natCast, rfirst_f f (bytes_drop hb _) (by rw [List.length_drop]; omega), Option.bind_some]
    by_cases he : (firstOf (l.drop at_)).2.2.2.2 = 0
    · rw [if_pos he, if_pos h]; simp
    · rw [if_neg he]; simp
  | on h t ih =>
    rename_i b xs n e
    intro at_ f out hbd ha ho hf
    subst hbd
    simp only [List.length_cons] at ho hf
    obtain ⟨f, rfl⟩ : ∃ g, f = g + 2 + 1 := ⟨f - 3, by omega⟩
    have hc := (first_cases (l.drop at_)).resolve_left h
    rw [List.length_drop] at hc
    obtain ⟨m, hm⟩ : ∃ m : Nat, (firstOf (l.drop at_)).2.2.2.1 = (m : Int) := Int.eq_ofNat_of_zero_le (by omega)
    have hme : m ≤ l.length - at_ := by omega
    have hw : wrap64 ((at_ : Int) + (m : Int)) = ((at_ + m : Nat) : Int) := by clear ih; unfold wrap64; omega
    rw [QD.watchkeeperref03_Cut.l0, if_pos (Int.natCast_nonneg _), if_pos (Int.ofNat_le.mpr ha), Int.toNat_natCast, rfirst_f f (bytes_drop hb _) (by rw [List.length_drop]; omega), Option.bind_some, if_pos (first_ok h), if_neg h, if_pos (by clear hw; omega), hm, hw]
    clear hw
    have := ih (at_ + m) (f + 2) (out ++ [⟨(firstOf (l.drop at_)).1, (firstOf (l.drop at_)).2.1, (firstOf (l.drop at_)).2.2.1⟩]) (by rw [List.drop_drop, hm, Int.toNat_natCast]) (by omega) (by simp; omega) (by omega)
    rw [this]
    simp [Nat.add_assoc]
theorem rcut_f {l : List Int} (hb : Bytes l) (hn : l.length ≤ 1000000) : ∃ k, QD.watchkeeperref03_Cut.f k l = some (cutOf l) := by
  obtain ⟨xs, n, e, h1, h2⟩ := cuts_of l
  refine ⟨xs.length + 3, ?_⟩
  have := rcut_l hb hn h1 0 (xs.length + 3) [] (by simp) (by omega) (by simpa using h1.le.2) (Nat.le_refl _)
  unfold QD.watchkeeperref03_Cut.f
  rw [h2]
  simpa using this
theorem rput_f (x : QD.S26) (hk : Known x) : QD.watchkeeperref03_Put.f x.f0 x.f1 x.f2 = some (if fineB x = true then bytesOf x else []) := by
  cases hf : fineB x with
  | true => rw [if_pos rfl]; exact put_fine (fine_of hk hf)
  | false =>
    have := of_decide_eq_false hf
    rw [if_neg (by decide)]
    exact put_not (a := x.f0) (b := x.f1) (by omega)
end Go.Proofs.Ytkmmkoiibcdmeaa
