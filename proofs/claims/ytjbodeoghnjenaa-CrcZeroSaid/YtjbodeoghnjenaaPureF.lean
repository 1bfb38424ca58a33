/- The sum of a xor. -/
import Derived.Test.YtjbodeoghnjenaaPureB
import Derived.Test.YtjbodeoghnjenaaQA4
namespace Go.Proofs.Ytjbodeoghnjenaa.Pure
open Go.RowKit Go.Proofs.Ytjbodeoghnjenaa Go.Proofs.Ytjbodeoghnjenaa.QA Go.Proofs.YtjbodeoghnjenaaW.PrintWords Go.Proofs.YtjbodeoghnjenaaW.PrintLast
def xb (a b : Int) : Int := Go.bits .xor .u8 a b
theorem xb_nat (a b : Int) (ha : 0 ≤ a ∧ a ≤ 255) (hb : 0 ≤ b ∧ b ≤ 255) : xb a b = ((a.toNat ^^^ b.toNat : Nat) : Int) ∧ a.toNat ^^^ b.toNat < 256 := by
  have h := xor_byte a b.toNat ha (by omega)
  rw [show ((b.toNat : Nat) : Int) = b by omega] at h
  exact h
theorem zip_nat (a b : List Int) (ha : Bytes a) (hb : Bytes b) : Bytes (List.zipWith xb a b) ∧ (List.zipWith xb a b).map Int.toNat = List.zipWith (· ^^^ ·) (a.map Int.toNat) (b.map Int.toNat) := by
  induction a generalizing b with
  | nil => exact ⟨fun x hx => by simp at hx, rfl⟩
  | cons x a ih =>
    cases b with
    | nil => exact ⟨fun x hx => by simp at hx, rfl⟩
    | cons y b =>
      obtain ⟨h1, h2⟩ := ih b (fun z hz => ha z (by simp [hz])) (fun z hz => hb z (by simp [hz]))
      have h := xb_nat x y (ha x (by simp)) (hb y (by simp))
      constructor
      · intro z hz
        rw [List.zipWith_cons_cons] at hz
        rcases List.mem_cons.1 hz with rfl | hz
        · omega
        · exact h1 z hz
      · rw [List.zipWith_cons_cons, List.map_cons, h2, h.1, Int.toNat_natCast, List.map_cons, List.map_cons, List.zipWith_cons_cons]
theorem bytes_zeros (n : Nat) : Bytes (List.replicate n 0) := fun x hx => by
  have := (List.mem_replicate.1 hx).2; omega
theorem zeros_nat (n : Nat) : (List.replicate n (0 : Int)).map Int.toNat = List.replicate n 0 := by simp
theorem sum_three (a b : List Int) (ha : Bytes a) (hb : Bytes b) (h : a.length = b.length) : Go.bits .xor .u16 (Go.bits .xor .u16 ((sum (List.zipWith xb a b) : Nat) : Int) ((sum a : Nat) : Int)) ((sum b : Nat) : Int) = ((sum (List.replicate a.length 0) : Nat) : Int) := by
  obtain ⟨hz, hzn⟩ := zip_nat a b ha hb
  have l1 := sum_lt hz
  have l2 := sum_lt ha
  have l3 := sum_lt hb
  have e1 := u16_xor_nat (sum (List.zipWith xb a b)) (sum a) l1 l2
  have e2 := u16_xor_nat (sum (List.zipWith xb a b) ^^^ sum a) (sum b) (Nat.xor_lt_two_pow (n := 16) l1 l2) l3
  have h3 := nsum_three (a.map Int.toNat) (b.map Int.toNat) (by simpa using h)
  rw [← hzn, ← sum_nat, ← sum_nat, ← sum_nat, List.length_map, ← zeros_nat, ← sum_nat] at h3
  rw [h3] at e2
  rw [← e2, ← e1]
theorem zero_step (a b : List Int) (n i : Nat) (ha : a.length = n) (hb : b.length = n) (hi : i < n) :
    (((List.zipWith xb a b).take i ++ List.replicate (n - i) 0).set i (xb (rd a i) (rd b i))) = (List.zipWith xb a b).take (i + 1) ++ List.replicate (n - (i + 1)) 0 := by
  have hl : (List.zipWith xb a b).length = n := by simp [ha, hb]
  have ht : ((List.zipWith xb a b).take i).length = i := by rw [List.length_take]; omega
  rw [List.set_append_right _ _ (by omega), ht, Nat.sub_self, show n - i = (n - (i + 1)) + 1 by omega, List.replicate_succ, List.set_cons_zero, List.take_succ_eq_append_getElem (by omega), List.getElem_zipWith, List.append_assoc, rd_at a i (by omega), rd_at b i (by omega)]
  rfl
theorem rd_take (l : List Int) (n i : Nat) (h : i < n) : rd (l.take n) i = rd l i := by
  unfold rd; simp [List.getD_eq_getElem?_getD, List.getElem?_take, h]
theorem zero_loop (l0 l1 : List Int) (hb0 : Bytes l0) (hb1 : Bytes l1) (n : Nat) (h0 : n ≤ l0.length) (h1 : n ≤ l1.length) (hn : n ≤ 9000) : ∀ (m i : Nat), i + m = n →
    watchkeeperlaw01_CrcZero.l0 (m + 1) l0 l1 true (n : Int) ((List.zipWith xb (l0.take n) (l1.take n)).take i ++ List.replicate (n - i) 0) (i : Int) = some true := by
  have e0 : (l0.take n).length = n := by rw [List.length_take]; omega
  have e1 : (l1.take n).length = n := by rw [List.length_take]; omega
  intro m
  induction m with
  | zero =>
    intro i hi
    obtain rfl : i = n := by omega
    have hx : (List.zipWith xb (l0.take i) (l1.take i)).take i ++ List.replicate (i - i) 0 = List.zipWith xb (l0.take i) (l1.take i) := by
      rw [Nat.sub_self, List.replicate_zero, List.append_nil, List.take_of_length_le (by simp [e0, e1])]
    have c1 : ¬ ((i : Int) < (i : Int)) := by omega
    have c2 : (0 : Int) ≤ (i : Int) := by omega
    have c3 : (i : Int) ≤ (l0.length : Int) := by omega
    have c4 : (i : Int) ≤ (l1.length : Int) := by omega
    have c5 : i ≤ 281474976710656 := by omega
    have t0 := bytes_take hb0 i
    have t1 := bytes_take hb1 i
    obtain ⟨hz, _⟩ := zip_nat _ _ t0 t1
    have hlz : (List.zipWith xb (l0.take i) (l1.take i)).length ≤ 1000000 := by simp [e0, e1]; omega
    have h3 := sum_three _ _ t0 t1 (by rw [e0, e1])
    rw [e0] at h3
    rw [hx]
    unfold watchkeeperlaw01_CrcZero.l0
    rw [if_neg c1, if_pos rfl, if_pos c2, if_pos c3, Int.toNat_natCast, seal_f t0 (by omega), Option.bind_some, sum_f (bytes_sealOf t0) (by rw [sealOf_length]; omega), Option.bind_some, sum_sealOf t0, if_pos (show ((0 : Nat) : Int) = 0 from rfl),
      sum_f hz hlz, Option.bind_some, sum_f t0 (by omega), Option.bind_some, if_pos c4, sum_f t1 (by omega), Option.bind_some, if_pos c5, sum_f (bytes_zeros i) (by simp; omega), Option.bind_some, h3]
    simp
  | succ m ih =>
    intro i hi
    have hin : i < n := by omega
    have c1 : (i : Int) < (n : Int) := by omega
    have c2 : (0 : Int) ≤ (i : Int) := by omega
    have c3 : (i : Int) < (l0.length : Int) := by omega
    have c4 : (i : Int) < (l1.length : Int) := by omega
    have hl : ((List.zipWith xb (l0.take n) (l1.take n)).take i ++ List.replicate (n - i) 0).length = n := by simp [e0, e1]; omega
    have c5 : (i : Int) < ((((List.zipWith xb (l0.take n) (l1.take n)).take i ++ List.replicate (n - i) 0).length : Nat) : Int) := by rw [hl]; exact c1
    have h3 : wrap64 ((i : Int) + 1) = ((i + 1 : Nat) : Int) := by unfold wrap64; omega
    have hs := zero_step (l0.take n) (l1.take n) n i e0 e1 hin
    rw [rd_take l0 n i hin, rd_take l1 n i hin] at hs
    unfold watchkeeperlaw01_CrcZero.l0
    rw [if_pos c1, if_pos c2, if_pos c3, if_pos c4, if_pos c5, h3, Int.toNat_natCast]
    have hs' : ((List.zipWith xb (l0.take n) (l1.take n)).take i ++ List.replicate (n - i) 0).set i (Go.bits .xor .u8 (rd l0 i) (rd l1 i)) = _ := hs
    rw [hs']
    exact ih (i + 1) (by omega)
theorem CrcZero : watchkeeperlaw01_CrcZero.Pure := by
  intro l0 l1 _ _ hw _ _ hw1
  have hb0 := bytes_wf hw
  have hb1 := bytes_wf hw1
  obtain ⟨n, hn, h0, h1⟩ : ∃ n : Nat, mn (l0.length : Int) (l1.length : Int) = (n : Int) ∧ n ≤ l0.length ∧ n ≤ l1.length := by
    by_cases h : l1.length < l0.length
    · exact ⟨l1.length, by unfold mn; rw [if_pos (by omega)], by omega, by omega⟩
    · exact ⟨l0.length, by unfold mn; rw [if_neg (by omega)], by omega, by omega⟩
  refine ⟨n + 1, ?_⟩
  unfold watchkeeperlaw01_CrcZero.f
  rw [head_f, Option.bind_some, hn]
  by_cases hn9 : (n : Int) > 9000
  · rw [if_pos hn9]
  rw [if_neg hn9, if_pos (by omega), Int.toNat_natCast, if_pos (by omega)]
  exact zero_loop l0 l1 hb0 hb1 n h0 h1 (by omega) n 0 (by omega)
end Go.Proofs.Ytjbodeoghnjenaa.Pure
