/- What is sealed. -/
import Derived.Test.YtafkabkoglbndaaCPA
namespace Go.Proofs.Ytafkabkoglbndaa
open Go.RowKit Go.Proofs.YtafkabkoglbndaaW.PrintWords Go.Proofs.YtafkabkoglbndaaW.PrintLast

def sealOf (l : List Int) : List Int := l ++ [((sum l : Nat) : Int) % 256, ((sum l : Nat) : Int) / 256]
def Bytes (l : List Int) : Prop := ∀ x ∈ l, 0 ≤ x ∧ x ≤ 255
theorem bytes_wf {l : List Int} (h : ∀ x ∈ l, (Lit.int .u8 x).wf = true) : Bytes l := fun x hx => by
  have := h x hx
  simp only [Lit.wf, IntKind.min, IntKind.max, IntKind.signed, IntKind.bits, Bool.and_eq_true, decide_eq_true_eq, if_true, Bool.false_eq_true, if_false] at this
  omega
theorem bytes_all {l : List Int} (h : Bytes l) : l.all isByte = true := List.all_eq_true.2 fun x hx => by
  have := h x hx; simpa [isByte] using this
theorem bytes_take {l : List Int} (h : Bytes l) (k : Nat) : Bytes (l.take k) := fun x hx => h x (List.mem_of_mem_take hx)
theorem sum_nat (l : List Int) : sum l = nsum 65535 (l.map Int.toNat) := sumN_nat _ _
theorem bytes_nat {l : List Int} (h : Bytes l) : ∀ x ∈ l.map Int.toNat, x < 256 := by
  intro x hx
  obtain ⟨y, hy, rfl⟩ := List.mem_map.1 hx
  have := h y hy; omega
theorem sum_lt {l : List Int} (h : Bytes l) : sum l < 65536 := by rw [sum_nat]; exact nsum_lt _ _ (by omega) (bytes_nat h)
theorem sealOf_nat (l : List Int) : (sealOf l).map Int.toNat = l.map Int.toNat ++ [nsum 65535 (l.map Int.toNat) % 256, nsum 65535 (l.map Int.toNat) / 256] := by
  unfold sealOf
  rw [List.map_append, ← sum_nat]
  simp only [List.map_cons, List.map_nil]
  congr 2
theorem sum_sealOf {l : List Int} (h : Bytes l) : sum (sealOf l) = 0 := by
  rw [sum_nat, sealOf_nat]; exact nsum_seal _ (bytes_nat h)
theorem sealOf_length (l : List Int) : (sealOf l).length = l.length + 2 := by unfold sealOf; simp
theorem bytes_sealOf {l : List Int} (h : Bytes l) : Bytes (sealOf l) := by
  intro x hx
  have hs := sum_lt h
  unfold sealOf at hx
  simp only [List.mem_append, List.mem_cons, List.not_mem_nil, or_false] at hx
  rcases hx with hx | rfl | rfl
  · exact h x hx
  · omega
  · omega
theorem take_sealOf (l : List Int) : (sealOf l).take ((sealOf l).length - 2) = l := by
  rw [sealOf_length]; unfold sealOf; simp
theorem seal_of_sum {l : List Int} (h : Bytes l) (h2 : 2 ≤ l.length) (h0 : sum l = 0) : sealOf (l.take (l.length - 2)) = l := by
  obtain ⟨a, p, q, rfl⟩ : ∃ a p q, l = a ++ [p, q] := by
    refine ⟨l.take (l.length - 2), l[l.length - 2], l[l.length - 1], ?_⟩
    have e : l.drop (l.length - 2) = [l[l.length - 2], l[l.length - 1]] := by
      rw [List.drop_eq_getElem_cons (by omega)]
      congr 1
      rw [List.drop_eq_getElem_cons (by omega), List.drop_of_length_le (by omega)]
      simp only [show l.length - 2 + 1 = l.length - 1 by omega]
    rw [← e, List.take_append_drop]
  have ha : Bytes a := fun x hx => h x (by simp [hx])
  have hp := h p (by simp)
  have hq := h q (by simp)
  rw [sum_nat, List.map_append] at h0
  have := (nsum_sealed _ p.toNat q.toNat (bytes_nat ha) (by omega) (by omega)).1 h0
  rw [← sum_nat] at this
  rw [show (a ++ [p, q]).take ((a ++ [p, q]).length - 2) = a by simp]
  unfold sealOf
  congr 2
  · omega
  · congr 1; omega
/-- A byte that is turned. -/
theorem xor_byte (x : Int) (d : Nat) (hx : 0 ≤ x ∧ x ≤ 255) (hd : d < 256) : Go.bits .xor .u8 x (d : Int) = ((x.toNat ^^^ d : Nat) : Int) ∧ x.toNat ^^^ d < 256 := by
  have := u8_xor_nat x.toNat d (by omega) hd
  rw [show ((x.toNat : Nat) : Int) = x by omega] at this
  exact ⟨this, Nat.xor_lt_two_pow (n := 8) (by omega) (by omega)⟩
theorem rd_at (l : List Int) (i : Nat) (hi : i < l.length) : rd l i = l[i] := by unfold rd; simp [List.getD_eq_getElem?_getD, List.getElem?_eq_getElem hi]
def turn (l : List Int) (i d : Nat) : List Int := l.set i (Go.bits .xor .u8 (rd l i) d)
theorem turn_length (l : List Int) (i d : Nat) : (turn l i d).length = l.length := by unfold turn; simp
theorem turn_bytes {l : List Int} (h : Bytes l) (i d : Nat) (hi : i < l.length) (hd : d < 256) : Bytes (turn l i d) := by
  intro x hx
  unfold turn at hx
  rcases List.mem_or_eq_of_mem_set hx with hx | rfl
  · exact h x hx
  · have := xor_byte (rd l i) d (by rw [rd_at l i hi]; exact h _ (List.getElem_mem _)) hd
    omega
theorem turn_nat {l : List Int} (h : Bytes l) (i d : Nat) (hi : i < l.length) (hd : d < 256) : (turn l i d).map Int.toNat = (l.map Int.toNat).take i ++ ((l.map Int.toNat)[i]'(by simpa using hi) ^^^ d) :: (l.map Int.toNat).drop (i + 1) := by
  unfold turn
  rw [(xor_byte (rd l i) d (by rw [rd_at l i hi]; exact h _ (List.getElem_mem _)) hd).1, List.map_set, List.set_eq_take_append_cons_drop, if_pos (by simpa using hi), rd_at l i hi]
  simp
theorem sum_turn1 {l : List Int} (h : Bytes l) (i d : Nat) (hi : i < l.length) (hd : d < 256) (h0 : sum l = 0) (hd0 : d ≠ 0) : sum (turn l i d) ≠ 0 := by
  rw [sum_nat, turn_nat h i d hi hd]
  refine nsum_turned1 _ _ _ d hd ?_ hd0
  rw [sum_nat] at h0
  have e : (l.map Int.toNat).take i ++ (l.map Int.toNat)[i]'(by simpa using hi) :: (l.map Int.toNat).drop (i + 1) = l.map Int.toNat := by
    rw [← List.drop_eq_getElem_cons, List.take_append_drop]
  rw [e]; exact h0
theorem sum_turn2 {l : List Int} (h : Bytes l) (i d e : Nat) (hi : i + 1 < l.length) (hd : d < 256) (he : e < 256) (h0 : sum l = 0) : sum (turn (turn l i d) (i + 1) e) = 0 ↔ d = 0 ∧ e = 0 := by
  rw [sum_nat, turn_nat (turn_bytes h i d (by omega) hd) (i + 1) e (by rw [turn_length]; exact hi) he]
  simp only [turn_nat h i d (by omega) hd]
  have hl : (List.take i (l.map Int.toNat)).length = i := by simp; omega
  have e1 : (List.take i (l.map Int.toNat) ++ ((l.map Int.toNat)[i]'(by simp; omega) ^^^ d) :: (l.map Int.toNat).drop (i + 1)).take (i + 1) = List.take i (l.map Int.toNat) ++ [(l.map Int.toNat)[i]'(by simp; omega) ^^^ d] := by
    rw [List.take_append, hl, List.take_of_length_le (by omega), show i + 1 - i = 1 by omega]; rfl
  have e2 : (List.take i (l.map Int.toNat) ++ ((l.map Int.toNat)[i]'(by simp; omega) ^^^ d) :: (l.map Int.toNat).drop (i + 1)).drop (i + 1 + 1) = (l.map Int.toNat).drop (i + 2) := by
    rw [List.drop_append, hl, List.drop_of_length_le (by omega), show i + 1 + 1 - i = 2 by omega]; simp
  have e3 : (List.take i (l.map Int.toNat) ++ ((l.map Int.toNat)[i]'(by simp; omega) ^^^ d) :: (l.map Int.toNat).drop (i + 1))[i + 1]'(by simp; omega) = (l.map Int.toNat)[i + 1]'(by simp; omega) := by
    rw [List.getElem_append_right (by omega)]
    simp [hl]
  rw [e1, e2, e3, List.append_assoc]
  refine nsum_turned _ _ _ _ d e hd he ?_
  rw [sum_nat] at h0
  have e4 : (l.map Int.toNat).take i ++ (l.map Int.toNat)[i]'(by simp; omega) :: (l.map Int.toNat)[i + 1]'(by simp; omega) :: (l.map Int.toNat).drop (i + 2) = l.map Int.toNat := by
    rw [← List.drop_eq_getElem_cons, ← List.drop_eq_getElem_cons, List.take_append_drop]
  rw [e4]; exact h0
end Go.Proofs.Ytafkabkoglbndaa
