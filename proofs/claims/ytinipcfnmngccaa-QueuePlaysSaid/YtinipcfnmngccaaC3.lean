/- The law QueueRoom, walked. -/
import Derived.Test.YtinipcfnmngccaaC2
namespace Go.Proofs.Ytinipcfnmngccaa
open Go.Conc Go.RowKit Go.Proofs.YtinipcfnmngccaaW.PrintWords Go.Proofs.YtinipcfnmngccaaW.PrintLast
set_option linter.unusedVariables false
set_option linter.unusedSimpArgs false
attribute [local go_sem] max_i min_i
def ints (m : Nat) : List Int := (List.range m).map fun i : Nat => (i : Int)
theorem ints_length (m : Nat) : (ints m).length = m := by simp [ints]
theorem ints_succ (m : Nat) : ints (m + 1) = ints m ++ [(m : Int)] := by simp [ints, List.range_succ]
def usOf (u : Bool) (m : Nat) : List Int := if u then ints m else []
def osOf (u : Bool) (m : Nat) : List Int := if u then [] else ints m
theorem room_put (n : Nat) (u : Bool) (k : Nat) (hk : k < n) : qput n u (k : Int) (usOf u k) (osOf u k) = (true, usOf u (k + 1), osOf u (k + 1)) := by
  cases u <;> simp [qput, usOf, osOf, ints_length, hk, ints_succ]
theorem room_full (n : Nat) (u : Bool) (x : Int) : qput n u x (usOf u n) (osOf u n) = (false, usOf u n, osOf u n) := by
  cases u <;> simp [qput, usOf, osOf, ints_length]
theorem room_other (n : Nat) (u : Bool) (hn : 0 < n) : qput n (!u) 1 (usOf u n) (osOf u n) = (true, if u then ints n else [1], if u then [1] else ints n) := by
  cases u <;> simp [qput, usOf, osOf, hn]
set_option maxRecDepth 100000 in
set_option maxHeartbeats 2000000 in
theorem room_any (k : Int) (u : Bool) (w : World) (_ : (Lit.int .i64 k).wf = true) : Calls Try.prog 6 #[.int .i64 k, .bool u] w fun e w' => e = .returned (.bool true) ∧ Below w.heap.size w w' := by
  obtain ⟨n, hn, hn0, hn1⟩ : ∃ n, room k = n ∧ n ≤ 64 ∧ 1 ≤ n := ⟨_, rfl, by unfold room; omega, by unfold room; omega⟩
  have hm : min (max k 1) 64 = (n : Int) := by rw [← hn]; unfold room; omega
  have HN := Lib.hid hn
  clear hn
  go_enter Try.func6, Try.ntmps6
  go_wp2_with fail
  refine (head_any w).mono ?_
  rintro e w1 ⟨rfl, hb⟩
  have HB1 := Lib.hid hb
  clear hb
  go_wp2_with fail
  refine (new_int k w1).mono ?_
  rintro e w2 ⟨q, b1, b2, rfl, hq, hb, hq0, hq1, hq2⟩
  rw [HN.out] at hq
  have HQ := Lib.hid hq
  have HB := Lib.hid (below_step HB1.out hb)
  replace hq1 : w.heap.size ≤ b1 := Nat.le_trans HB1.out.size hq1
  replace hq2 : w.heap.size ≤ b2 := Nat.le_trans HB1.out.size hq2
  clear hq hb HB1 hq0
  go_wp2_with fail
  go_loopw [8] (fun v8 wr => ∃ j : Nat, j ≤ 70 ∧ v8 = .int .i64 j ∧ Hid (IsQ 48 (Value.int .i64) wr q b1 b2 n (usOf u (min j n)) (osOf u (min j n))) ∧ Hid (Below w.heap.size w wr)) (fun v _ => 70 - (intOf v).toNat)
  case atStart => exact ⟨0, by omega, rfl, Lib.hid (by have := HQ.out; rw [Nat.zero_min]; cases u <;> exact this), HB⟩
  case round =>
    clear HQ HB
    obtain ⟨j, hj, rfl, hq, hb⟩ := hrel
    by_cases h70 : j < 70
    · by_cases hjn : j < n
      · have hp := room_put n u j hjn
        have HQ := Lib.hid (put_to (u := u) (x := (j : Int)) (r := true) (us' := usOf u (j + 1)) (os' := osOf u (j + 1)) (by have := hq.out; rwa [Nat.min_eq_left (by omega)] at this) hp)
        clear hp
        have hd : decide ((j : Int) < (n : Int)) = true := decide_eq_true (by omega)
        have hd' : decide (j < n) = true := decide_eq_true (by omega)
        go_wp2_with fail
        refine HQ.out.mono ?_
        rintro e w3 ⟨rfl, hq3, ho⟩
        have HQ3 := Lib.hid hq3
        have HB3 := Lib.hid (hb.out.trans (ho.below hq1 hq2))
        clear hq3 ho HQ
        go_wp2_with fail
        go_roundw
        case rel => exact ⟨j + 1, by omega, by go_num, Lib.hid (by rw [Nat.min_eq_left (by omega)]; exact HQ3.out), HB3⟩
        case measure => simp [intOf]; omega
      · have hp := room_full n u (j : Int)
        have HQ := Lib.hid (put_to (u := u) (x := (j : Int)) (r := false) (us' := usOf u n) (os' := osOf u n) (by have := hq.out; rwa [Nat.min_eq_right (by omega)] at this) hp)
        clear hp
        have hd : decide ((j : Int) < (n : Int)) = false := decide_eq_false (by omega)
        have hd' : decide (j < n) = false := decide_eq_false (by omega)
        go_wp2_with fail
        refine HQ.out.mono ?_
        rintro e w3 ⟨rfl, hq3, ho⟩
        have HQ3 := Lib.hid hq3
        have HB3 := Lib.hid (hb.out.trans (ho.below hq1 hq2))
        clear hq3 ho HQ
        go_wp2_with fail
        go_roundw
        case rel => exact ⟨j + 1, by omega, by go_num, Lib.hid (by rw [Nat.min_eq_right (by omega)]; exact HQ3.out), HB3⟩
        case measure => simp [intOf]; omega
    · obtain rfl : j = 70 := by omega
      have HQ := Lib.hid (put_to (u := !u) (x := 1) (r := true) (by have := hq.out; rwa [Nat.min_eq_right (by omega)] at this) (room_other n u (by omega)))
      clear hq
      go_wp2_with fail
      refine HQ.out.mono ?_
      rintro e w3 ⟨rfl, hq3, ho⟩
      have HB3 := Lib.hid (hb.out.trans (ho.below hq1 hq2))
      have hl : (if u then ints n else [1]).length + (if u then [1] else ints n).length = n + 1 := by cases u <;> simp [ints_length]; omega
      have hdr := drain_int q b1 b2 n _ _ w3 hq3 (by rw [hl]; omega)
      rw [hl] at hdr
      have HD := Lib.hid hdr
      clear hq3 ho HQ hdr hl hb
      go_wp2_with fail
      refine HD.out.mono ?_
      rintro e w4 ⟨rfl, hq, ho⟩
      have HQ := Lib.hid hq
      have HB := Lib.hid (HB3.out.trans (ho.below hq1 hq2))
      clear hq ho HD HB3
      go_wp2_with fail
      refine (drain_int q b1 b2 n [] [] w4 HQ.out (by decide)).mono ?_
      rintro e w5 ⟨rfl, hq, ho⟩
      have HB5 := Lib.hid (HB.out.trans (ho.below hq1 hq2))
      clear hq ho HQ HB
      go_wp2_with fail
      go_ret
      exact ⟨rfl, HB5.out⟩
end Go.Proofs.Ytinipcfnmngccaa
