/- Bytes in pieces are cut to the same: plain mathematics. -/
import Derived.Test.YtkmmkoiibcdmeaaQE4
import Derived.Test.YtkmmkoiibcdmeaaPureM
import Derived.Test.YtkmmkoiibcdmeaaBK
namespace Go.Proofs.Ytkmmkoiibcdmeaa
open Go.RowKit Go.Proofs.YtkmmkoiibcdmeaaW.PrintWords Go.Proofs.YtkmmkoiibcdmeaaW.PrintLast
set_option linter.unusedVariables false
set_option linter.unusedSimpArgs false
/-- What was got of the first bytes, and what is left of them. -/
def Got (B : List Int) (a : Nat) (got : List QD.S26) (left : List Int) (bad : Int) : Prop := ∃ n, Cuts (B.take a) got n bad ∧ left = (B.take a).drop n
theorem got_nil (B : List Int) : Got B 0 [] [] 0 := ⟨0, by rw [List.take_zero]; exact cuts_nil, by simp⟩
theorem got_on {B : List Int} {a m : Nat} {got : List QD.S26} {left : List Int} (h : Got B a got left 0) :
    Got B (a + m) (got ++ (cutOf (left ++ (B.take (a + m)).drop a)).1) ((left ++ (B.take (a + m)).drop a).drop (cutOf (left ++ (B.take (a + m)).drop a)).2.1.toNat) (cutOf (left ++ (B.take (a + m)).drop a)).2.2 := by
  obtain ⟨n, hc, rfl⟩ := h
  obtain ⟨l', n', e', h1, h2⟩ := cuts_of ((B.take a).drop n ++ (B.take (a + m)).drop a)
  rw [h2]
  have hb : B.take (a + m) = B.take a ++ (B.take (a + m)).drop a := by
    rw [List.take_add, List.drop_append]
    by_cases hl : a ≤ B.length
    · rw [show a - (B.take a).length = 0 by rw [List.length_take]; omega, List.drop_zero, List.drop_of_length_le (l := B.take a) (by rw [List.length_take]; omega), List.nil_append]
    · rw [List.drop_of_length_le (l := B) (by omega), List.take_nil]
      rw [List.drop_of_length_le (l := B.take a) (by rw [List.length_take]; omega)]
      simp
  refine ⟨n + n', ?_, ?_⟩
  · rw [hb]; exact (hc.more _).2 rfl h1
  · show ((B.take a).drop n ++ (B.take (a + m)).drop a).drop ((n' : Int)).toNat = _
    rw [Int.toNat_natCast]
    conv => rhs; rw [hb, ← List.drop_drop]
    rw [List.drop_append_of_le_length hc.le.1]
theorem got_all {B : List Int} {a : Nat} {got : List QD.S26} {left : List Int} {bad : Int} (h : Got B a got left bad) (ha : bad = 0 → a = B.length) : (cutOf B).1 = got ∧ (cutOf B).2.2 = bad := by
  obtain ⟨n, hc, _⟩ := h
  by_cases hb : bad = 0
  · rw [ha hb, List.take_length] at hc
    rw [hc.cutOf]; exact ⟨rfl, rfl⟩
  · have := (hc.more (B.drop a)).1 hb
    rw [List.take_append_drop] at this
    rw [this.cutOf]; exact ⟨rfl, rfl⟩
theorem Got.len {B : List Int} {a : Nat} {got : List QD.S26} {left : List Int} {bad : Int} (h : Got B a got left bad) : got.length ≤ B.length ∧ left.length ≤ B.length := by
  obtain ⟨n, hc, rfl⟩ := h
  have := hc.le
  rw [List.length_take] at this
  refine ⟨by omega, ?_⟩
  rw [List.length_drop, List.length_take]; omega
theorem same_all (l : List QD.S26) (f : Nat) (h : l.length < f) (hl : l.length ≤ 1000000) : QD.watchkeeperref03_SameAll.f f l l = some true := by
  unfold QD.watchkeeperref03_SameAll.f
  rw [if_pos rfl]
  exact sameAll_l l l.length 0 f (by omega) h hl
theorem pieces_end (B cs : List Int) (hB : Bytes B) (hN : B.length ≤ 9000) {a : Nat} {got : List QD.S26} {left : List Int} {bad : Int} (hg : Got B a got left bad) (ha : bad = 0 → a = B.length) (f : Nat) (hf : 9000 < f) (i : Int) :
    QD.watchkeeperlaw03_MbapPieces.j2 (f + 1) B cs true left got (a : Int) bad i false = some true := by
  obtain ⟨h1, h2⟩ := got_all hg ha
  have hl := hg.len.1
  rw [QD.watchkeeperlaw03_MbapPieces.j2, if_neg (by decide), cut_f hB (by omega), Option.bind_some, if_pos rfl, h1, same_all got f (by omega) (by omega), Option.bind_some, if_pos rfl, h2]
  simp
theorem pieces_go (B cs : List Int) (hB : Bytes B) (hC : Bytes cs) (hN : B.length ≤ 9000) (hM : cs.length ≤ 300) : ∀ (d i a : Nat) (got : List QD.S26) (left : List Int) (bad : Int) (f : Nat), i + d = cs.length + 1 → Got B a got left bad → a ≤ B.length → (d = 0 → bad = 0 → a = B.length) → 2 * d + 9010 < f →
    QD.watchkeeperlaw03_MbapPieces.l0 f B cs true left got (a : Int) bad (i : Int) = some true := by
  intro d
  induction d with
  | zero =>
    intro i a got left bad f hi hg ha hz hf
    obtain ⟨f, rfl⟩ : ∃ g, f = g + 2 := ⟨f - 2, by omega⟩
    rw [QD.watchkeeperlaw03_MbapPieces.l0, if_neg (by omega)]
    exact pieces_end B cs hB hN hg (hz rfl) f (by omega) _
  | succ d ih =>
    intro i a got left bad f hi hg ha hz hf
    obtain ⟨f, rfl⟩ : ∃ g, f = g + 2 := ⟨f - 2, by omega⟩
    rw [QD.watchkeeperlaw03_MbapPieces.l0, if_pos (by omega)]
    by_cases hb : bad = 0
    · subst hb
      have hll := hg.len
      -- one round
      have round : ∀ m : Nat, a + m ≤ B.length → (d = 0 → a + m = B.length) → ∀ z : Int, z = ((a + m : Nat) : Int) →
          (if 0 ≤ (a : Int) then (if (a : Int) ≤ z then (if z ≤ (B.length : Int) then (if left.length + ((B.take (z : Int).toNat).drop ((a : Int) : Int).toNat).length < 140737488355328 then ((some (left ++ ((B.take (z : Int).toNat).drop ((a : Int) : Int).toNat) : List Int)).bind fun y204 => ((QD.mbap_Cut.f y204).bind fun bt207 => (if bt207.2.1 < 0 then (some false) else (if bt207.2.1 > (y204.length : Int) then (some false) else (if got.length + bt207.1.length < 4398046511104 then ((some (([] : List Int) : List Int)).bind fun y215 => (if 0 ≤ bt207.2.1 then (if bt207.2.1 ≤ (y204.length : Int) then ((some (y204.drop (bt207.2.1 : Int).toNat : List Int)).bind fun y218 => (if y215.length + y218.length < 140737488355328 then (QD.watchkeeperlaw03_MbapPieces.l0 f B cs true (y215 ++ y218) (got ++ bt207.1) z bt207.2.2 (wrap64 ((i : Int) + 1))) else (none))) else (none)) else (none))) else (none)))))) else (none)) else (none)) else (none)) else (none)) = some true := by
        intro m hm hd z hz
        subst hz
        have hgo := got_on (m := m) hg
        have hw : wrap64 ((i : Int) + 1) = ((i + 1 : Nat) : Int) := by unfold wrap64; omega
        obtain ⟨l', n', e', h1, h2⟩ := cuts_of (left ++ (B.take (a + m)).drop a)
        have hle := h1.le
        have hlen : (left ++ (B.take (a + m)).drop a).length ≤ 18000 := by rw [List.length_append, List.length_drop, List.length_take]; clear hw; omega
        have hbl : Bytes (left ++ (B.take (a + m)).drop a) := bytes_append (by obtain ⟨n, _, rfl⟩ := hg; exact bytes_drop (bytes_take hB _) _) (bytes_drop (bytes_take hB _) _)
        have p0 : (0 : Int) ≤ (a : Int) := by clear hw; omega
        have p1 : (a : Int) ≤ ((a + m : Nat) : Int) := by clear hw; omega
        have p2 : ((a + m : Nat) : Int) ≤ (B.length : Int) := by clear hw; omega
        rw [if_pos p0, if_pos p1, if_pos p2, Int.toNat_natCast, Int.toNat_natCast]
        rw [if_pos (by rw [← List.length_append]; clear hw; omega), Option.bind_some, cut_f hbl (by clear hw; omega), Option.bind_some, h2]
        rw [h2] at hgo
        have q0 : ¬ ((n' : Int) < 0) := by clear hw; omega
        have q1 : ¬ ((n' : Int) > ((left ++ (B.take (a + m)).drop a).length : Int)) := by clear hw; omega
        have q2 : got.length + l'.length < 4398046511104 := by clear hw; omega
        have q3 : (0 : Int) ≤ (n' : Int) := by clear hw; omega
        have q4 : (n' : Int) ≤ ((left ++ (B.take (a + m)).drop a).length : Int) := by clear hw; omega
        have q5 : ([] : List Int).length + ((left ++ (B.take (a + m)).drop a).drop n').length < 140737488355328 := by rw [List.length_nil, List.length_drop]; clear hw; omega
        show (if (n' : Int) < 0 then _ else _) = _
        rw [if_neg q0, if_neg q1, if_pos q2, Option.bind_some, if_pos q3, if_pos q4, Option.bind_some, Int.toNat_natCast, if_pos q5, List.nil_append, hw]
        rw [Int.toNat_natCast] at hgo
        exact ih (i + 1) (a + m) _ _ _ f (by omega) hgo hm (fun h _ => hd h) (by omega)
      rw [QD.watchkeeperlaw03_MbapPieces.j2, if_pos (show ((0 : Int) == 0) = true from rfl)]
      have w1 : wrap64 ((B.length : Int) - (a : Int)) = (B.length : Int) - (a : Int) := by unfold wrap64; omega
      by_cases hc : i < cs.length
      · have hr := rd_byte hC i hc
        have w2 : wrap64 (rd cs (i : Int)) = rd cs (i : Int) := by clear w1; unfold wrap64; omega
        obtain ⟨m, hm, hmB⟩ : ∃ m : Nat, mn (rd cs (i : Int)) ((B.length : Int) - (a : Int)) = (m : Int) ∧ a + m ≤ B.length := by
          refine ⟨(mn (rd cs (i : Int)) ((B.length : Int) - (a : Int))).toNat, ?_, ?_⟩
          · unfold mn; clear w1 w2; split <;> omega
          · unfold mn; clear w1 w2; split <;> omega
        have w3 : wrap64 ((a : Int) + (m : Int)) = ((a + m : Nat) : Int) := by clear w1 w2 hm; unfold wrap64; omega
        have p1 : (i : Int) < (cs.length : Int) := by clear w1 w2 w3 hm; omega
        have p2 : (0 : Int) ≤ (i : Int) := by clear w1 w2 w3 hm; omega
        rw [if_pos p1, if_pos p2, w1, w2, hm]
        exact round m hmB (by intro h; omega) _ w3
      · have w3 : wrap64 ((a : Int) + ((B.length : Int) - (a : Int))) = ((a + (B.length - a) : Nat) : Int) := by clear w1; unfold wrap64; omega
        have p1 : ¬ (i : Int) < (cs.length : Int) := by clear w1 w3; omega
        rw [if_neg p1, w1]
        exact round (B.length - a) (by omega) (fun _ => by omega) _ w3
    · have hb2 : (bad == 0) = false := by simpa using hb
      rw [hb2]
      exact pieces_end B cs hB hN hg (fun h => absurd h hb) f (by omega) _
end Go.Proofs.Ytkmmkoiibcdmeaa
namespace Go.Proofs.Ytkmmkoiibcdmeaa.Pure
open Go.RowKit Go.Proofs.Ytkmmkoiibcdmeaa.QD Go.Proofs.YtkmmkoiibcdmeaaW.PrintWords Go.Proofs.YtkmmkoiibcdmeaaW.PrintLast
theorem MbapPieces : watchkeeperlaw03_MbapPieces.Pure := by
  intro B cs _ _ h1 _ _ h2
  refine ⟨20000, ?_⟩
  have e : (20000 : Nat) = 19999 + 1 := rfl
  unfold watchkeeperlaw03_MbapPieces.f
  rw [show watchkeeperlaw03_head.f = some true from rfl, Option.bind_some, e]
  by_cases h : (B.length : Int) > 9000
  · rw [if_pos h, watchkeeperlaw03_MbapPieces.j0, if_pos rfl]
  · rw [if_neg h, watchkeeperlaw03_MbapPieces.j0]
    by_cases h3 : (cs.length : Int) > 300
    · rw [if_pos (decide_eq_true h3)]
    · rw [if_neg (by simpa using h3)]
      exact pieces_go B cs (bytes_wf h1) (bytes_wf h2) (by omega) (by omega) (cs.length + 1) 0 0 [] [] 0 19999 (by omega) (got_nil B) (by omega) (by omega) (by omega)
end Go.Proofs.Ytkmmkoiibcdmeaa.Pure
