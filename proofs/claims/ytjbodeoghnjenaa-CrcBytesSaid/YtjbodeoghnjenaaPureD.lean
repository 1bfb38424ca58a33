/- One byte turned. -/
import Derived.Test.YtjbodeoghnjenaaPureC
import Derived.Test.YtjbodeoghnjenaaQA5
namespace Go.Proofs.Ytjbodeoghnjenaa.Pure
open Go.RowKit Go.Proofs.Ytjbodeoghnjenaa Go.Proofs.Ytjbodeoghnjenaa.QA Go.Proofs.YtjbodeoghnjenaaW.PrintWords Go.Proofs.YtjbodeoghnjenaaW.PrintLast
theorem len1 (n : Nat) (h : n ≤ 100000) (h2 : 2 ≤ n) : wrap64 ((n : Int) - 1) = ((n - 1 : Nat) : Int) := by rw [w64 _ (by omega)]; omega
theorem byte_nat (x : Int) (h : (Lit.int .u8 x).wf = true) : ∃ d : Nat, x = (d : Int) ∧ d < 256 := by
  simp only [Lit.wf, IntKind.min, IntKind.max, IntKind.signed, IntKind.bits, Bool.and_eq_true, decide_eq_true_eq, if_true, Bool.false_eq_true, if_false] at h
  exact ⟨x.toNat, by omega, by omega⟩
set_option maxRecDepth 10000 in
theorem CrcBytes : watchkeeperlaw01_CrcBytes.Pure := by
  intro l0 a1 a2 a3 _ _ hw hw1 hw2 hw3
  have hb := bytes_wf hw
  have ha : 0 ≤ a1 ∧ a1 ≤ 65535 := by
    simp only [Lit.wf, IntKind.min, IntKind.max, IntKind.signed, IntKind.bits, Bool.and_eq_true, decide_eq_true_eq, if_true, Bool.false_eq_true, if_false] at hw1
    omega
  obtain ⟨d, rfl, hd⟩ := byte_nat a2 hw2
  obtain ⟨e, rfl, he⟩ := byte_nat a3 hw3
  unfold watchkeeperlaw01_CrcBytes.f
  rw [head_f, Option.bind_some]
  by_cases hn : (l0.length : Int) > 4000
  · rw [if_pos hn]
  rw [if_neg hn, seal_f hb (by omega), Option.bind_some]
  have hsl := sealOf_length l0
  have hsb := bytes_sealOf hb
  have hs0 := sum_sealOf hb
  generalize sealOf l0 = s at hsl hsb hs0 ⊢
  have h2 : 2 ≤ s.length := by omega
  have h3 : s.length ≤ 4002 := by omega
  clear hw hn hsl hb hw1 hw2 hw3
  have hwb : -9223372036854775808 ≤ a1 ∧ a1 ≤ 9223372036854775807 := by omega
  obtain ⟨k, hk, hkl⟩ := kof a1 (s.length - 1) ha.1 (by omega)
  have c0 : ¬ (((s.length - 1 : Nat) : Int) = 0) := by omega
  have c00 : ¬ ((s.length : Int) < 2) := by omega
  have c01 : s.length < 140737488355328 := by omega
  have c1 : (0 : Int) ≤ (k : Int) := Int.natCast_nonneg _
  have c3 : (0 : Int) ≤ ((k + 1 : Nat) : Int) := Int.natCast_nonneg _
  have hi1 : k < s.length := by clear hk; omega
  have hi2 : k + 1 < s.length := by clear hk; omega
  have c2 : (k : Int) < (s.length : Int) := Int.ofNat_lt.2 hi1
  have c4 : ((k + 1 : Nat) : Int) < (s.length : Int) := Int.ofNat_lt.2 hi2
  have n3 : k ≤ 1000000 := by clear hk; omega
  have n4 : s.length ≤ 100000 := by clear hk; omega
  have hwa : wrap64 a1 = a1 := w64 a1 hwb
  have w3 := wsucc k n3
  have w4 := len1 s.length n4 h2
  have B2 := sum_turn2 hsb k d e hi2 hd he hs0
  have BB := turn_bytes (turn_bytes hsb k d hi1 hd) (k + 1) e (by rw [turn_length]; exact hi2) he
  rw [w4, hwa, hk, w3]
  simp only [Int.toNat_natCast]
  rw [if_neg c00, if_neg c0]
  simp only [Option.bind_some, List.nil_append, List.length_nil, Nat.zero_add]
  rw [if_pos c01, if_pos c1, if_pos c2]
  have u1 : s.set k (Go.bits .xor .u8 (rd s (k : Int)) (d : Int)) = turn s k d := rfl
  rw [u1]
  have hyl := turn_length s k d
  generalize turn s k d = y at B2 BB hyl ⊢
  have u2 : y.set (k + 1) (Go.bits .xor .u8 (rd y ((k + 1 : Nat) : Int)) (e : Int)) = turn y (k + 1) e := rfl
  rw [u2, if_pos c3, if_pos c4]
  have hzl := turn_length y (k + 1) e
  generalize turn y (k + 1) e = z at B2 BB hzl ⊢
  have hz2 : 2 ≤ z.length := by rw [hzl, hyl]; exact h2
  rw [open_f BB (by rw [hzl, hyl]; exact Nat.le_trans h3 (by decide))]
  simp only [Option.bind_some, if_true]
  by_cases h0 : d = 0 ∧ e = 0
  · obtain ⟨rfl, rfl⟩ := h0
    rw [decide_eq_true ⟨hz2, B2.2 ⟨rfl, rfl⟩⟩]; rfl
  · rw [decide_eq_false (fun h => h0 (B2.1 h.2))]
    by_cases hd0 : d = 0
    · have he0 : e ≠ 0 := fun h => h0 ⟨hd0, h⟩
      rw [if_pos (by rw [hd0]; rfl)]
      have : ((e : Int) == 0) = false := by simpa using he0
      rw [this]; rfl
    · rw [if_neg (by simpa using hd0)]; rfl
end Go.Proofs.Ytjbodeoghnjenaa.Pure
