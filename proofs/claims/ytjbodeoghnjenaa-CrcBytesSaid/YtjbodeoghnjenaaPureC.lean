/- One bit turned; one byte turned. -/
import Derived.Test.YtjbodeoghnjenaaPureB
import Derived.Test.YtjbodeoghnjenaaQA3
namespace Go.Proofs.Ytjbodeoghnjenaa.Pure
open Go.RowKit Go.Proofs.Ytjbodeoghnjenaa Go.Proofs.Ytjbodeoghnjenaa.QA Go.Proofs.YtjbodeoghnjenaaW.PrintWords Go.Proofs.YtjbodeoghnjenaaW.PrintLast

theorem shl_one (b : Nat) (hb : b < 8) : shl .u8 1 (b : Int) = ((2 ^ b : Nat) : Int) ∧ 2 ^ b < 256 ∧ 2 ^ b ≠ 0 := by
  have : b = 0 ∨ b = 1 ∨ b = 2 ∨ b = 3 ∨ b = 4 ∨ b = 5 ∨ b = 6 ∨ b = 7 := by omega
  rcases this with rfl | rfl | rfl | rfl | rfl | rfl | rfl | rfl <;> exact ⟨by decide, by decide, by decide⟩
theorem w64 (x : Int) (h : -9223372036854775808 ≤ x ∧ x ≤ 9223372036854775807) : wrap64 x = x := by unfold wrap64; omega
theorem turn_twice (l : List Int) (h : Bytes l) (i d e : Nat) (hi : i < l.length) (hd : d < 256) (he : e < 256) : turn (turn l i d) i e = turn l i (d ^^^ e) := by
  have hx := h _ (List.getElem_mem hi)
  have h1 := xor_byte (rd l i) d (by rw [rd_at l i hi]; exact hx) hd
  have hde : d ^^^ e < 256 := Nat.xor_lt_two_pow (n := 8) (by omega) (by omega)
  have h2 := xor_byte (rd l i) (d ^^^ e) (by rw [rd_at l i hi]; exact hx) hde
  have h3 : rd (turn l i d) i = Go.bits .xor .u8 (rd l i) d := by
    rw [rd_at _ i (by rw [turn_length]; exact hi)]; unfold turn; simp
  have h4 := xor_byte (rd (turn l i d) i) e (by rw [h3, h1.1]; omega) he
  unfold turn at h3 h4 ⊢
  rw [h4.1, h3, h1.1, h2.1, List.set_set]
  congr 1
  rw [Int.toNat_natCast, Nat.xor_assoc]

theorem tdiv8 (k : Nat) : Int.tdiv (k : Int) 8 = ((k / 8 : Nat) : Int) := by rw [Int.tdiv_eq_ediv_of_nonneg (by omega)]; omega
theorem tmod8 (k : Nat) : Int.tmod (k : Int) 8 = ((k % 8 : Nat) : Int) := by rw [Int.tmod_eq_emod_of_nonneg (by omega)]; omega
theorem wnat (k : Nat) (h : k ≤ 1000000) : wrap64 (k : Int) = (k : Int) := w64 _ (by omega)
theorem wsucc (k : Nat) (h : k ≤ 1000000) : wrap64 ((k : Int) + 1) = ((k + 1 : Nat) : Int) := by rw [w64 _ (by omega)]; omega
theorem len8 (n : Nat) (h : n ≤ 100000) (h2 : 2 ≤ n) : wrap64 (wrap64 (8 * (n : Int)) - 1) = ((8 * n - 1 : Nat) : Int) := by rw [w64 (8 * (n : Int)) (by omega), w64 _ (by omega)]; omega
theorem kof (a : Int) (n : Nat) (h : 0 ≤ a) (hn : 0 < n) : ∃ k : Nat, Int.tmod a (n : Int) = k ∧ k < n := by
  have h1 := Int.tmod_nonneg (n : Int) h
  have h2 := Int.tmod_lt_of_pos a (show (0 : Int) < (n : Int) by omega)
  exact ⟨(Int.tmod a (n : Int)).toNat, by omega, by omega⟩
theorem one_bit (s : List Int) (hsb : Bytes s) (hs0 : sum s = 0) (k : Nat) (hk : k < 8 * s.length - 1) : Bytes (turn s (k / 8) (2 ^ (k % 8))) ∧ sum (turn s (k / 8) (2 ^ (k % 8))) ≠ 0 := by
  have hi1 : k / 8 < s.length := by omega
  obtain ⟨s1, s2, s3⟩ := shl_one (k % 8) (by omega)
  exact ⟨turn_bytes hsb _ _ hi1 s2, sum_turn1 hsb _ _ hi1 s2 hs0 s3⟩
theorem two_bits (s : List Int) (hsb : Bytes s) (hs0 : sum s = 0) (k : Nat) (hk : k < 8 * s.length - 1) : Bytes (turn (turn s (k / 8) (2 ^ (k % 8))) ((k + 1) / 8) (2 ^ ((k + 1) % 8))) ∧ sum (turn (turn s (k / 8) (2 ^ (k % 8))) ((k + 1) / 8) (2 ^ ((k + 1) % 8))) ≠ 0 := by
  have hi1 : k / 8 < s.length := by omega
  have hi2 : (k + 1) / 8 < s.length := by omega
  obtain ⟨s1, s2, s3⟩ := shl_one (k % 8) (by omega)
  obtain ⟨t1, t2, t3⟩ := shl_one ((k + 1) % 8) (by omega)
  refine ⟨turn_bytes (turn_bytes hsb _ _ hi1 s2) _ _ (by rw [turn_length]; exact hi2) t2, ?_⟩
  by_cases hsame : (k + 1) / 8 = k / 8
  · have hm : (k + 1) % 8 = k % 8 + 1 := by omega
    rw [hsame, turn_twice s hsb _ _ _ hi1 s2 t2]
    refine sum_turn1 hsb _ _ hi1 (Nat.xor_lt_two_pow (n := 8) s2 t2) hs0 (fun e => ?_)
    have e := (xor_zero_iff _ _).1 e
    rw [hm, Nat.pow_succ] at e
    omega
  · have e : (k + 1) / 8 = k / 8 + 1 := by omega
    rw [e] at hi2 ⊢
    exact fun h => s3 ((sum_turn2 hsb _ _ _ hi2 s2 t2 hs0).1 h).1
theorem open_not {x : List Int} (hx : Bytes x) (hn : x.length ≤ 1000000) (h0 : sum x ≠ 0) : crc_Open.f x = some (([] : List Int), false) := by
  rw [open_f hx hn, if_neg (fun h => h0 h.2), decide_eq_false (fun h => h0 h.2)]
set_option maxRecDepth 10000 in
theorem CrcBits : watchkeeperlaw01_CrcBits.Pure := by
  intro l0 a1 a2 _ _ hw hw1
  have hb := bytes_wf hw
  have ha : 0 ≤ a1 ∧ a1 ≤ 65535 := by
    simp only [Lit.wf, IntKind.min, IntKind.max, IntKind.signed, IntKind.bits, Bool.and_eq_true, decide_eq_true_eq, if_true, Bool.false_eq_true, if_false] at hw1
    omega
  unfold watchkeeperlaw01_CrcBits.f
  rw [head_f, Option.bind_some]
  by_cases hn : (l0.length : Int) > 4000
  · rw [if_pos hn]
  rw [if_neg hn, seal_f hb (by omega), Option.bind_some]
  have hsl := sealOf_length l0
  have hsb := bytes_sealOf hb
  have hs0 := sum_sealOf hb
  generalize sealOf l0 = s at hsl hsb hs0 ⊢
  have h2 : 2 ≤ s.length := by omega
  have h3 : s.length ≤ 4002 := by omega
  clear hw hn hsl hb hw1
  have hwb : -9223372036854775808 ≤ a1 ∧ a1 ≤ 9223372036854775807 := by omega
  obtain ⟨k, hk, hkl⟩ := kof a1 (8 * s.length - 1) ha.1 (by omega)
  have c0 : ¬ (((8 * s.length - 1 : Nat) : Int) = 0) := by omega
  have c00 : ¬ ((s.length : Int) < 2) := by omega
  have c01 : s.length < 140737488355328 := by omega
  have c1 : (0 : Int) ≤ ((k / 8 : Nat) : Int) := Int.natCast_nonneg _
  have c3 : (0 : Int) ≤ ((k % 8 : Nat) : Int) := Int.natCast_nonneg _
  have c4 : (0 : Int) ≤ (((k + 1) / 8 : Nat) : Int) := Int.natCast_nonneg _
  have c6 : (0 : Int) ≤ (((k + 1) % 8 : Nat) : Int) := Int.natCast_nonneg _
  have hi1 : k / 8 < s.length := by clear hk; omega
  have hi2 : (k + 1) / 8 < s.length := by clear hk; omega
  have c2 : ((k / 8 : Nat) : Int) < (s.length : Int) := Int.ofNat_lt.2 hi1
  have c5 : (((k + 1) / 8 : Nat) : Int) < (s.length : Int) := Int.ofNat_lt.2 hi2
  have hm1 : k % 8 < 8 := Nat.mod_lt _ (by decide)
  have hm2 : (k + 1) % 8 < 8 := Nat.mod_lt _ (by decide)
  have n1 : k / 8 ≤ 1000000 := by clear hk; omega
  have n2 : (k + 1) / 8 ≤ 1000000 := by clear hk; omega
  have n3 : k ≤ 1000000 := by clear hk; omega
  have n4 : s.length ≤ 100000 := by clear hk; omega
  have hwa : wrap64 a1 = a1 := w64 a1 hwb
  have w1 := wnat (k / 8) n1
  have w2 := wnat ((k + 1) / 8) n2
  have w3 := wsucc k n3
  have w4 := len8 s.length n4 h2
  have s1 := (shl_one (k % 8) hm1).1
  have t1 := (shl_one ((k + 1) % 8) hm2).1
  have B1 := one_bit s hsb hs0 k hkl
  have B2 := two_bits s hsb hs0 k hkl
  rw [w4, hwa, hk, w3]
  simp only [tdiv8, tmod8, w1, w2, s1, t1, Int.toNat_natCast]
  rw [if_neg c00, if_neg c0]
  simp only [Option.bind_some, List.nil_append, List.length_nil, Nat.zero_add]
  rw [if_pos c01, if_pos c1, if_pos c2, if_pos c3]
  have u1 : s.set (k / 8) (Go.bits .xor .u8 (rd s ((k / 8 : Nat) : Int)) ((2 ^ (k % 8) : Nat) : Int)) = turn s (k / 8) (2 ^ (k % 8)) := rfl
  rw [u1]
  have hyl := turn_length s (k / 8) (2 ^ (k % 8))
  generalize turn s (k / 8) (2 ^ (k % 8)) = y at B1 B2 hyl ⊢
  have u2 : y.set ((k + 1) / 8) (Go.bits .xor .u8 (rd y (((k + 1) / 8 : Nat) : Int)) ((2 ^ ((k + 1) % 8) : Nat) : Int)) = turn y ((k + 1) / 8) (2 ^ ((k + 1) % 8)) := rfl
  rw [u2, if_pos c4, if_pos c5, if_pos c6]
  have hzl := turn_length y ((k + 1) / 8) (2 ^ ((k + 1) % 8))
  generalize turn y ((k + 1) / 8) (2 ^ ((k + 1) % 8)) = z at B2 hzl ⊢
  rw [open_not B1.1 (by rw [hyl]; exact Nat.le_trans h3 (by decide)) B1.2, open_not B2.1 (by rw [hzl, hyl]; exact Nat.le_trans h3 (by decide)) B2.2]
  cases a2 <;> rfl
end Go.Proofs.Ytjbodeoghnjenaa.Pure
