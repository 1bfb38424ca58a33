/- The plain law of RtuSpoilt. -/
import Derived.Test.YtafkabkoglbndaaBK1
import Derived.Test.YtafkabkoglbndaaQC2
namespace Go.Proofs.Ytafkabkoglbndaa.Pure
open Go.RowKit Go.Proofs.Ytafkabkoglbndaa Go.Proofs.Ytafkabkoglbndaa.QC Go.Proofs.YtafkabkoglbndaaW.PrintWords Go.Proofs.YtafkabkoglbndaaW.PrintLast
theorem word_wf {a : Int} (h : (Lit.int .u16 a).wf = true) : 0 ≤ a ∧ a ≤ 65535 := by
  simp only [Lit.wf, IntKind.min, IntKind.max, IntKind.signed, IntKind.bits, Bool.and_eq_true, decide_eq_true_eq, Bool.false_eq_true, if_false] at h
  omega
theorem shl_bit : ∀ j : Fin 8, shl .u8 1 ((j.val : Nat) : Int) = ((2 ^ j.val : Nat) : Int) := by decide +kernel
theorem getC {l : List Int} (h : Bytes l) : QC.rtu_Get.f l = some (getOf l) := get_f h
theorem openC {l : List Int} (h : Bytes l) (hn : l.length ≤ 1000000) : QC.watchkeeperref01_Open.f l = some (if 2 ≤ l.length ∧ sum l = 0 then l.take (l.length - 2) else [], decide (2 ≤ l.length ∧ sum l = 0)) := by
  unfold QC.watchkeeperref01_Open.f; rw [if_pos ⟨hn, bytes_all h⟩]
theorem get_short {l : List Int} (h : l.length < 4) : (getOf l).2.2 = 21 := by unfold getOf; rw [if_neg (by omega), if_pos h]
theorem get_err {l : List Int} (h : 4 ≤ l.length) (h2 : l.length ≤ 256) : (getOf l).2.2 = if sum l = 0 then 0 else 23 := by
  unfold getOf; rw [if_neg (by omega), if_neg (by omega)]; split <;> rfl
theorem RtuSpoilt : QC.watchkeeperlaw02_RtuSpoilt.Pure := by
  intro a0 l1 a2 a3 h0 hm hs hw h2
  have hu := byte_wf h0
  have hb := bytes_wf hw
  have ha := word_wf h2
  refine ⟨0 + 1, ?_⟩
  unfold QC.watchkeeperlaw02_RtuSpoilt.f
  rw [show QC.watchkeeperlaw02_head.f = some true from rfl, Option.bind_some, show QC.rtu_Put.f a0 l1 = some (putOf a0 l1) from put_f hu hb, Option.bind_some]
  by_cases hl : (l1.length : Int) > 253
  · rw [if_pos hl]; rw [QC.watchkeeperlaw02_RtuSpoilt.j0]; rw [if_pos rfl]
  rw [if_neg hl]
  by_cases hz : l1.length = 0
  · have : putOf a0 l1 = [] := by unfold putOf; rw [if_pos hz]
    rw [this]; rw [QC.watchkeeperlaw02_RtuSpoilt.j0]; rw [if_pos (by rfl)]
  obtain ⟨-, hlen, hB, hsum⟩ := put_get hu hb (show 0 < l1.length by omega) (by omega)
  obtain ⟨F, hF⟩ : ∃ F, putOf a0 l1 = F := ⟨_, rfl⟩
  rw [hF] at hlen hB hsum ⊢
  clear hF
  have e0 : ((F.length : Int) == 0) = false := beq_eq_false_iff_ne.mpr (by omega)
  have hw64 : wrap64 a2 = a2 := by unfold wrap64; omega
  rw [e0]
  rw [QC.watchkeeperlaw02_RtuSpoilt.j0]
  rw [if_neg (by decide), hw64]
  cases a3 with
  | true =>
    rw [if_pos rfl, if_neg (by omega)]
    obtain ⟨n, hn⟩ : ∃ n : Nat, Int.tmod a2 (F.length : Int) = n := ⟨(Int.tmod a2 (F.length : Int)).toNat, by have := Int.tmod_nonneg (F.length : Int) ha.1; omega⟩
    have hlt := Int.tmod_lt_of_pos a2 (show (0 : Int) < F.length by omega)
    rw [hn] at hlt ⊢
    rw [if_pos (by omega), if_pos (by omega), Option.bind_some]
    have hy := bytes_take hB n
    have hyl : (F.take n).length = n := by rw [List.length_take]; omega
    show ((QC.rtu_Get.f (F.take n)).bind _) = _
    rw [getC hy, Option.bind_some]
    show ((QC.watchkeeperref01_Open.f (F.take n)).bind _) = _
    rw [openC hy (by omega), Option.bind_some, if_pos rfl]
    show (if ((F.take n).length : Int) < 4 then some (((getOf (F.take n)).2.2 != 0) == true) else some (((getOf (F.take n)).2.2 != 0) == !(decide (2 ≤ (F.take n).length ∧ sum (F.take n) = 0)))) = _
    by_cases h4 : n < 4
    · rw [if_pos (by omega), get_short (by omega)]; rfl
    · rw [if_neg (by omega), get_err (by omega) (by omega)]
      by_cases hs0 : sum (F.take n) = 0
      · rw [if_pos hs0, decide_eq_true ⟨by omega, hs0⟩]; rfl
      · rw [if_neg hs0, decide_eq_false (fun h => hs0 h.2)]; rfl
  | false =>
    rw [if_neg (by decide), Option.bind_some, if_pos (by simp; omega), Option.bind_some, List.nil_append]
    have h8 : wrap64 (8 * (F.length : Int)) = 8 * (F.length : Int) := by unfold wrap64; omega
    rw [h8, if_neg (by omega)]
    obtain ⟨n, hn⟩ : ∃ n : Nat, Int.tmod a2 (8 * (F.length : Int)) = n := ⟨(Int.tmod a2 (8 * (F.length : Int))).toNat, by have := Int.tmod_nonneg (8 * (F.length : Int)) ha.1; omega⟩
    have hlt := Int.tmod_lt_of_pos a2 (show (0 : Int) < 8 * (F.length : Int) by omega)
    rw [hn] at hlt ⊢
    have hd : wrap64 (Int.tdiv (n : Int) 8) = ((n / 8 : Nat) : Int) := by rw [Int.tdiv_eq_ediv_of_nonneg (by omega)]; unfold wrap64; omega
    have hr : Int.tmod (n : Int) 8 = ((n % 8 : Nat) : Int) := by rw [Int.tmod_eq_emod_of_nonneg (by omega)]; omega
    have hi : n / 8 < F.length := by omega
    rw [hd, hr, if_pos (by omega), if_pos (by omega), if_pos (by omega)]
    have hsh : shl .u8 1 ((n % 8 : Nat) : Int) = ((2 ^ (n % 8) : Nat) : Int) := shl_bit ⟨n % 8, by omega⟩
    have hpow : 2 ^ (n % 8) < 256 := Nat.pow_lt_pow_right (a := 2) (n := 8) (by decide) (by omega)
    have hpos : 2 ^ (n % 8) ≠ 0 := Nat.pos_iff_ne_zero.mp (Nat.pow_pos (by decide))
    rw [hsh]
    show ((QC.rtu_Get.f (turn F (n / 8) (2 ^ (n % 8)))).bind _) = _
    rw [getC (turn_bytes hB _ _ hi hpow), Option.bind_some, if_pos rfl]
    have := get_err (l := turn F (n / 8) (2 ^ (n % 8))) (by rw [turn_length]; omega) (by rw [turn_length]; omega)
    rw [if_neg (sum_turn1 hB _ _ hi hpow hsum hpos)] at this
    rw [this]; rfl
end Go.Proofs.Ytafkabkoglbndaa.Pure
