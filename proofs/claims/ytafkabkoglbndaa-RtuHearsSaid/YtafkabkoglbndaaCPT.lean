/- The reference's sum, and what it seals and opens, as plain mathematics. -/
import Derived.Test.YtafkabkoglbndaaCPB
import Derived.Test.YtafkabkoglbndaaQA1
namespace Go.Proofs.Ytafkabkoglbndaa
open Go.RowKit Go.Proofs.YtafkabkoglbndaaW.PrintWords Go.Proofs.YtafkabkoglbndaaW.PrintLast
theorem fall_bit (s m : Nat) : fall (bit1 s) m = fall s (m + 1) := by
  induction m with
  | zero => rfl
  | succ m ih => show bit1 (fall (bit1 s) m) = bit1 (fall s (m + 1)); rw [ih]
theorem wrap16 (x : Int) (h0 : 0 ≤ x) (h1 : x < 65536) : IntKind.u16.wrap x = x := by
  have e : IntKind.u16.wrap x = x % 65536 := rfl
  rw [e]; omega
theorem l1_eq (k : Nat) (x0 : List Int) (x3 x4 x5 : Int) : QA.watchkeeperref01_Sum.l1 (k + 1) x0 x3 x4 x5 = if x5 < 8 then (if (Int.tmod x3 2) = 1 then (QA.watchkeeperref01_Sum.l1 k x0 (Go.bits .xor .u16 (IntKind.u16.wrap (Int.tdiv x3 2)) 40961) x4 (wrap64 (x5 + 1))) else (QA.watchkeeperref01_Sum.l1 k x0 (IntKind.u16.wrap (Int.tdiv x3 2)) x4 (wrap64 (x5 + 1)))) else (QA.watchkeeperref01_Sum.l0 k x0 x3 (wrap64 (x4 + 1))) := by
  simp only [QA.watchkeeperref01_Sum.l1]
theorem l0_eq (k : Nat) (x0 : List Int) (x3 x4 : Int) : QA.watchkeeperref01_Sum.l0 (k + 1) x0 x3 x4 = if x4 < (x0.length : Int) then (if 0 ≤ x4 then (QA.watchkeeperref01_Sum.l1 k x0 (Go.bits .xor .u16 x3 (IntKind.u16.wrap (rd x0 x4))) x4 0) else (none)) else (some x3) := by
  simp only [QA.watchkeeperref01_Sum.l0]
theorem r_bits (l : List Int) (x4 : Int) : ∀ (m j s k : Nat), j + m = 8 → s < 65536 →
    QA.watchkeeperref01_Sum.l1 (k + m + 1) l (s : Int) x4 (j : Int) = QA.watchkeeperref01_Sum.l0 k l ((fall s m : Nat) : Int) (wrap64 (x4 + 1)) := by
  intro m
  induction m with
  | zero =>
    intro j s k hj hs
    rw [l1_eq, if_neg (by omega)]; rfl
  | succ m ih =>
    intro j s k hj hs
    have e1 : Int.tmod (s : Int) 2 = ((s % 2 : Nat) : Int) := by rw [Int.tmod_eq_emod_of_nonneg (by omega)]; omega
    have e2 : Int.tdiv (s : Int) 2 = ((s / 2 : Nat) : Int) := by rw [Int.tdiv_eq_ediv_of_nonneg (by omega)]; omega
    have e3 : IntKind.u16.wrap ((s / 2 : Nat) : Int) = ((s / 2 : Nat) : Int) := wrap16 _ (by omega) (by omega)
    have e4 : wrap64 ((j : Int) + 1) = ((j + 1 : Nat) : Int) := by unfold wrap64; omega
    have e5 := u16_xor_nat (s / 2) 40961 (by omega) (by omega)
    have hb := fall_lt s 1 hs
    rw [← fall_bit]
    have hi := ih (j + 1) (bit1 s) k (by omega) hb
    rw [← hi, show k + (m + 1) + 1 = (k + m + 1) + 1 by omega]
    rw [l1_eq (k + m + 1) l (s : Int) x4 (j : Int), if_pos (by omega), e1, e2, e3, e4]
    by_cases ho : s % 2 = 1
    · rw [if_pos (by omega)]
      have : Go.bits BinOp.xor IntKind.u16 ((s / 2 : Nat) : Int) 40961 = ((bit1 s : Nat) : Int) := by
        refine e5.trans ?_
        unfold bit1; rw [ho]
      rw [this]
    · rw [if_neg (by omega)]
      have : bit1 s = s / 2 := by unfold bit1; rw [show s % 2 = 0 by omega]; simp
      rw [this]
theorem r_sum (l : List Int) (hb : Bytes l) (hn : l.length ≤ 1000000) : ∀ (m i k : Nat), i + m = l.length →
    QA.watchkeeperref01_Sum.l0 (k + 10 * m + 1) l ((sum (l.take i) : Nat) : Int) (i : Int) = some ((sum l : Nat) : Int) := by
  intro m
  induction m with
  | zero =>
    intro i k hi
    obtain rfl : i = l.length := by omega
    rw [l0_eq, if_neg (by omega), List.take_length]
  | succ m ih =>
    intro i k hi
    have hil : i < l.length := by omega
    have c1 : (i : Int) < (l.length : Int) := by omega
    have c2 : (0 : Int) ≤ (i : Int) := by omega
    have hr : 0 ≤ rd l i ∧ rd l i ≤ 255 := by rw [rd_at l i hil]; exact hb _ (List.getElem_mem _)
    obtain ⟨c, hc⟩ : ∃ c : Nat, rd l i = (c : Int) := ⟨(rd l i).toNat, by omega⟩
    have hs : sum (l.take i) < 65536 := sum_lt (bytes_take hb i)
    have hx : sum (l.take i) ^^^ c < 65536 := Nat.xor_lt_two_pow (n := 16) (by omega) (by omega)
    have ht := sum_take l i hil
    rw [hc, Int.toNat_natCast, upd_fall _ _ hs (by omega)] at ht
    have e3 : IntKind.u16.wrap (c : Int) = (c : Int) := wrap16 _ (by omega) (by omega)
    have e4 : wrap64 ((i : Int) + 1) = ((i + 1 : Nat) : Int) := by unfold wrap64; omega
    have e5 := u16_xor_nat (sum (l.take i)) c hs (by omega)
    have hq := r_bits l (i : Int) 8 0 (sum (l.take i) ^^^ c) (k + 10 * m + 1) (by omega) hx
    have hi' := ih (i + 1) k (by omega)
    rw [ht] at hi'
    rw [show k + 10 * (m + 1) + 1 = (k + 10 * m + 1 + 8 + 1) + 1 by omega]
    rw [l0_eq, if_pos c1, if_pos c2, hc, e3, e5]
    refine (hq.trans ?_)
    rw [e4]; exact hi'
theorem rsum_f {l : List Int} (hb : Bytes l) (hn : l.length ≤ 1000000) : QA.watchkeeperref01_Sum.f (10 * l.length + 1) l = some ((sum l : Nat) : Int) := by
  have := r_sum l hb hn l.length 0 0 (by omega)
  rw [Nat.zero_add] at this
  exact this
theorem rseal_f {l : List Int} (hb : Bytes l) (hn : l.length ≤ 1000000) : QA.watchkeeperref01_Seal.f (10 * l.length + 1) l = some (sealOf l) := by
  unfold QA.watchkeeperref01_Seal.f
  have hs := sum_lt hb
  rw [rsum_f hb hn, Option.bind_some, Option.bind_some, if_pos (by simp; omega), Option.bind_some, Option.bind_some, if_pos (by simp; omega)]
  unfold sealOf
  have e : ((sum l : Nat) : Int) / 256 % 256 = ((sum l : Nat) : Int) / 256 := by omega
  rw [e]; rfl
theorem last_two (l : List Int) (h2 : 2 ≤ l.length) : l = l.take (l.length - 2) ++ [rd l ((l.length - 2 : Nat) : Int), rd l ((l.length - 1 : Nat) : Int)] := by
  have e : l.drop (l.length - 2) = [l[l.length - 2], l[l.length - 1]] := by
    rw [List.drop_eq_getElem_cons (by omega)]
    congr 1
    rw [List.drop_eq_getElem_cons (by omega), List.drop_of_length_le (by omega)]
    simp only [show l.length - 2 + 1 = l.length - 1 by omega]
  rw [rd_at l _ (by omega), rd_at l _ (by omega), ← e, List.take_append_drop]
theorem sum_two (l : List Int) (hb : Bytes l) (h2 : 2 ≤ l.length) : sum l = 0 ↔ rd l ((l.length - 2 : Nat) : Int) = ((sum (l.take (l.length - 2)) : Nat) : Int) % 256 ∧ rd l ((l.length - 1 : Nat) : Int) = ((sum (l.take (l.length - 2)) : Nat) : Int) / 256 % 256 := by
  have hp : 0 ≤ rd l ((l.length - 2 : Nat) : Int) ∧ rd l ((l.length - 2 : Nat) : Int) ≤ 255 := by rw [rd_at l _ (by omega)]; exact hb _ (List.getElem_mem _)
  have hq : 0 ≤ rd l ((l.length - 1 : Nat) : Int) ∧ rd l ((l.length - 1 : Nat) : Int) ≤ 255 := by rw [rd_at l _ (by omega)]; exact hb _ (List.getElem_mem _)
  have ha := bytes_take hb (l.length - 2)
  have hs := sum_lt ha
  have hl := last_two l h2
  generalize rd l ((l.length - 2 : Nat) : Int) = p at hp hl ⊢
  generalize rd l ((l.length - 1 : Nat) : Int) = q at hq hl ⊢
  have h3 := nsum_sealed ((l.take (l.length - 2)).map Int.toNat) p.toNat q.toNat (bytes_nat ha) (by omega) (by omega)
  rw [← sum_nat] at h3
  have e : sum l = nsum 65535 ((l.take (l.length - 2)).map Int.toNat ++ [p.toNat, q.toNat]) := by
    rw [sum_nat]; conv => lhs; rw [hl]
    rw [List.map_append]; rfl
  rw [e, h3]
  omega
end Go.Proofs.Ytafkabkoglbndaa
