/- The table of the sums. -/
import Derived.Test.YtafkabkoglbndaaKit
import Derived.Deep.WholeRow
import Derived.Laws.CopyOwn
namespace Go.Proofs.Ytafkabkoglbndaa
open Go.RowKit

/-- One bit falls off. -/
def bit1 (s : Nat) : Nat := (s / 2) ^^^ ((s % 2) * 40961)
def fall (s : Nat) : Nat → Nat
  | 0 => s
  | k + 1 => bit1 (fall s k)
def tab (i : Nat) : Nat := fall i 8
def Z256 : Array Value := Array.replicate 256 (.int .u16 0)
def tabRow (k : Nat) : Array Value := Array.ofFn (n := 256) fun i => if i.val < k then .int .u16 (tab i.val) else .int .u16 0
theorem tabRow_zero : tabRow 0 = Z256 := by
  unfold tabRow Z256
  apply Array.ext (by simp)
  intro i h1 h2
  simp
theorem tabRow_succ (k : Nat) (_hk : k < 256) : (tabRow k).setIfInBounds k (.int .u16 (tab k)) = tabRow (k + 1) := by
  unfold tabRow
  apply Array.ext (by simp)
  intro i h1 h2
  rw [Array.getElem_setIfInBounds (by simpa using h1)]
  simp only [Array.getElem_ofFn]
  by_cases hik : k = i
  · subst hik; simp
  · rw [if_neg hik]
    by_cases h3 : i < k
    · rw [if_pos h3, if_pos (by omega)]
    · rw [if_neg h3, if_neg (by omega)]
theorem tabRow_at (k i : Nat) (hi : i < 256) : (tabRow k)[i]? = some (if i < k then .int .u16 (tab i) else .int .u16 0) := by
  unfold tabRow; rw [Array.getElem?_ofFn, dif_pos hi]
theorem tabRow_size (k : Nat) : (tabRow k).size = 256 := by unfold tabRow; simp
theorem tabRow_one (k : Nat) : (tabRow k).all (·.oneCell') = true := by
  rw [Array.all_eq_true]
  intro i hi
  have hi' : i < 256 := by rw [tabRow_size] at hi; exact hi
  have := tabRow_at k i hi'
  rw [Array.getElem?_eq_getElem hi] at this
  rw [Option.some.inj this]; split <;> rfl
theorem Z256_size : Z256.size = 256 := by unfold Z256; simp
theorem fall_lt (i k : Nat) (hi : i < 65536) : fall i k < 65536 := by
  induction k with
  | zero => exact hi
  | succ k ih =>
    show bit1 (fall i k) < 65536
    unfold bit1
    exact Nat.xor_lt_two_pow (n := 16) (by omega) (by omega)
theorem step16 (s : Nat) (hs : s < 65536) : Go.bits BinOp.xor IntKind.u16 ((s : Int) / 2) (IntKind.u16.wrap (Go.bits BinOp.and IntKind.u16 (s : Int) 1 * 40961)) = (bit1 s : Nat) := by
  have h1 : Go.bits BinOp.and IntKind.u16 (s : Int) 1 = ((s % 2 : Nat) : Int) := by
    have := u16_and_nat s 1 hs (by omega)
    rw [Nat.and_one_is_mod] at this
    exact this
  have h2 : IntKind.u16.wrap (((s % 2 : Nat) : Int) * 40961) = ((s % 2 * 40961 : Nat) : Int) := by
    have : s % 2 = 0 ∨ s % 2 = 1 := by omega
    rcases this with e | e <;> rw [e] <;> rfl
  rw [h1, h2]
  have := u16_xor_nat (s / 2) (s % 2 * 40961) (by omega) (by omega)
  rw [show ((s : Int) / 2) = ((s / 2 : Nat) : Int) by omega]
  exact this
set_option maxRecDepth 100000 in
theorem zero34 : (Try.prog.info? 56).map (fun i => (i.zero, i.size)) = some (some (.agg Z256), 256) := by kernel_rfl
attribute [irreducible] Z256 tabRow
set_option maxHeartbeats 1000000 in
set_option maxRecDepth 100000 in
theorem table_any (w : World) : Calls Try.prog 31 #[] w fun e w' => e = .returned (.agg (tabRow 256)) ∧ Below w.heap.size w w' := by
  have hz := (zero_of_info zero34).1
  go_enter Try.func31, Try.ntmps31
  go_wp2_with fail
  clear hz
  go_loopw [2, 3, 4, 9] (fun _ _ i _ wr => ∃ k : Nat, k ≤ 256 ∧ i = .int .i64 k ∧ Blk wr (w.heap.size + 1) 56 (tabRow k) ∧ Blk wr w.heap.size 56 Z256 ∧ Below w.heap.size w wr) (fun _ _ i _ _ => 256 - (intOf i).toNat)
  case atStart => exact ⟨0, Nat.zero_le _, rfl, by rw [tabRow_zero]; simpa using Blk.new (w.alloc (.cells Z256 56)) 56 Z256, (Blk.new w 56 Z256).alloc _, ((Below.refl _ _).alloc (Nat.le_refl _) _).alloc (by simp) _⟩
  case round =>
    obtain ⟨k, hk, rfl, hd, hd0, hb⟩ := hrel
    have Hd := Lib.hid hd
    have Hd0 := Lib.hid hd0
    have Hb := Lib.hid hb
    clear hd hd0 hb
    by_cases hlt : k < 256
    · go_wp2_with fail
      go_loop [3, 9] (fun s j => ∃ q : Nat, q ≤ 8 ∧ j = .int .i64 q ∧ s = .int .u16 (fall k q : Nat)) (fun _ j => 8 - (intOf j).toNat)
      case atStart => exact ⟨0, Nat.zero_le _, rfl, rfl⟩
      case round =>
        obtain ⟨q, hq, rfl, rfl⟩ := hrel
        have hs := fall_lt k q (by omega)
        by_cases hlt8 : q < 8
        · have HS : Hid (fall k (q + 1) = bit1 (fall k q)) := rfl
          generalize fall k q = s at hs HS
          go_wp2_with fail
          go_round
          case rel => exact ⟨q + 1, by omega, by go_num, by rw [HS.out, step16 s hs]⟩
          case measure => simp [intOf]; omega
        · obtain rfl : q = 8 := by omega
          have c0 := Hd.out.frozen k
          have c1 : wr.cell? ⟨w.heap.size + 1, k, none⟩ = some (.int .u16 0) := (Hd.out.cell k).trans (by rw [tabRow_at k k hlt, if_neg (by omega)])
          go_wp2_with fail
          go_roundw
          case rel => exact ⟨k + 1, by omega, by go_num, by have := Hd.out.set_ k (.int .u16 (tab k)); rwa [tabRow_succ k hlt] at this, Hd0.out.far (by simp) _, Hb.out.setCell (by simp) _⟩
          case measure => simp [intOf]; omega
    · obtain rfl : k = 256 := by omega
      have hs34 := (zero_of_info zero34).2
      go_wp2_with (first
        | refine wpList_load_row rfl 56 (.tmp 1) rfl (w.heap.size + 1) rfl 56 (tabRow 256) (0, 0) _ Hd.out Try.underlying56 rfl (by rw [tabRow_size]; exact hs34) ?_
        | refine wpList_store_row rfl 56 (.tmp 0) (.tmp 22) rfl w.heap.size (tabRow 256) rfl rfl 56 Z256 Hd0.out (by rw [tabRow_size]; exact hs34) (by rw [Z256_size, tabRow_size]) (tabRow_one 256) ?_)
      refine bodyPost_ret (results_cell_row rfl _ _ w.heap.size 56 (tabRow 256) (0, 0) _ rfl (setRow_heap _ _ Z256 _ 56 (0, 0) Hd0.out) Try.underlying56 rfl (by rw [tabRow_size]; exact hs34)) rfl ⟨rfl, ?_⟩
      exact below_setRow Hb.out (Nat.le_refl _) _
end Go.Proofs.Ytafkabkoglbndaa
