/- Contracts of the functions that the law reaches, and what each comes to as a plain function; laid by a program of mine over the printer. -/
import Derived.Test.YtjbodeoghnjenaaQA0
import Derived.Test.YtjbodeoghnjenaaQA1
namespace Go.Proofs.Ytjbodeoghnjenaa.QA
open Go.RowKit Go.Proofs.YtjbodeoghnjenaaW.PrintWords Go.Proofs.YtjbodeoghnjenaaW.PrintLast Go.Proofs.YtjbodeoghnjenaaW.PrintMore
attribute [local go_sem] max2_int min2_int max_two min_two max_three min_three max_four min_four   -- for this text's walks alone
set_option linter.unusedVariables false
set_option linter.unusedSimpArgs false

/-! ### watchkeeperlaw01_CrcBits: function 5 -/
def watchkeeperlaw01_CrcBits.f (l0 : List Int) (a1 : Int) (a2 : Bool) : Option (Bool) := (watchkeeperlaw01_head.f).bind fun t117 => (if (l0.length : Int) > 4000 then (some t117) else ((crc_Seal.f l0).bind fun t118 => (if (t118.length : Int) < 2 then (some false) else (if (wrap64 ((wrap64 (8 * (t118.length : Int))) - 1)) = 0 then (none) else ((some (([] : List Int) : List Int)).bind fun y121 => (if y121.length + t118.length < 140737488355328 then ((some (y121 ++ t118 : List Int)).bind fun y124 => (if 0 ≤ (wrap64 (Int.tdiv (Int.tmod (wrap64 (a1)) (wrap64 ((wrap64 (8 * (t118.length : Int))) - 1))) 8)) then (if (wrap64 (Int.tdiv (Int.tmod (wrap64 (a1)) (wrap64 ((wrap64 (8 * (t118.length : Int))) - 1))) 8)) < (y124.length : Int) then (if 0 ≤ (Int.tmod (Int.tmod (wrap64 (a1)) (wrap64 ((wrap64 (8 * (t118.length : Int))) - 1))) 8) then ((some (y124.set ((wrap64 (Int.tdiv (Int.tmod (wrap64 (a1)) (wrap64 ((wrap64 (8 * (t118.length : Int))) - 1))) 8)) : Int).toNat (Go.bits .xor .u8 (rd y124 (wrap64 (Int.tdiv (Int.tmod (wrap64 (a1)) (wrap64 ((wrap64 (8 * (t118.length : Int))) - 1))) 8))) (shl .u8 1 (Int.tmod (Int.tmod (wrap64 (a1)) (wrap64 ((wrap64 (8 * (t118.length : Int))) - 1))) 8))) : List Int)).bind fun y128 => (if a2 = true then (if 0 ≤ (wrap64 (Int.tdiv (wrap64 ((Int.tmod (wrap64 (a1)) (wrap64 ((wrap64 (8 * (t118.length : Int))) - 1))) + 1)) 8)) then (if (wrap64 (Int.tdiv (wrap64 ((Int.tmod (wrap64 (a1)) (wrap64 ((wrap64 (8 * (t118.length : Int))) - 1))) + 1)) 8)) < (y124.length : Int) then (if 0 ≤ (Int.tmod (wrap64 ((Int.tmod (wrap64 (a1)) (wrap64 ((wrap64 (8 * (t118.length : Int))) - 1))) + 1)) 8) then ((crc_Open.f (y128.set ((wrap64 (Int.tdiv (wrap64 ((Int.tmod (wrap64 (a1)) (wrap64 ((wrap64 (8 * (t118.length : Int))) - 1))) + 1)) 8)) : Int).toNat (Go.bits .xor .u8 (rd y128 (wrap64 (Int.tdiv (wrap64 ((Int.tmod (wrap64 (a1)) (wrap64 ((wrap64 (8 * (t118.length : Int))) - 1))) + 1)) 8))) (shl .u8 1 (Int.tmod (wrap64 ((Int.tmod (wrap64 (a1)) (wrap64 ((wrap64 (8 * (t118.length : Int))) - 1))) + 1)) 8))))).bind fun bt131 => (if t117 = true then (some (!bt131.2)) else (some false))) else (none)) else (none)) else (none)) else ((crc_Open.f y128).bind fun bt135 => (if t117 = true then (some (!bt135.2)) else (some false))))) else (none)) else (none)) else (none))) else (none)))))))
def watchkeeperlaw01_CrcBits.T9 : Bool × List (List Nat × List Nat) := (true, [([], []), ([], []), ([1], [1]), ([], []), ([], []), ([4], [4]), ([3, 5], [3, 5]), ([6], [6]), ([], []), ([8], [8]), ([9], [9]), ([7, 10], [7, 10]), ([0, 2, 0, 1, 2, 3, 4, 5, 6, 7, 8, 9, 10, 11], [0, 2]), ([12, 11, 0, 1, 2, 3, 4, 5, 6, 7, 8, 9, 10, 11], [11, 12])])
def watchkeeperlaw01_CrcBits.B9 : List Nat := [0, 0, 2, 0, 0, 16, 56, 120, 0, 256, 768, 2040, 4095, 8191]
theorem watchkeeperlaw01_CrcBits.tab9 : rtab .any (opsOf Try.f5 9) = watchkeeperlaw01_CrcBits.T9 := by kernel_rfl
theorem watchkeeperlaw01_CrcBits.bits9 : waitsOk watchkeeperlaw01_CrcBits.T9.2 watchkeeperlaw01_CrcBits.B9 = true := by kernel_rfl
def watchkeeperlaw01_CrcBits.T12 : Bool × List (List Nat × List Nat) := (true, [([], []), ([], []), ([1], [1]), ([], []), ([], []), ([4], [4]), ([3, 5], [3, 5]), ([6], [6]), ([], []), ([8], [8]), ([9], [9]), ([7, 10], [7, 10]), ([0, 2, 0, 1, 2, 3, 4, 5, 6, 7, 8, 9, 10, 11], [0, 2]), ([12, 11, 0, 1, 2, 3, 4, 5, 6, 7, 8, 9, 10, 11], [11, 12])])
def watchkeeperlaw01_CrcBits.B12 : List Nat := [0, 0, 2, 0, 0, 16, 56, 120, 0, 256, 768, 2040, 4095, 8191]
theorem watchkeeperlaw01_CrcBits.tab12 : rtab .any (opsOf Try.f5 12) = watchkeeperlaw01_CrcBits.T12 := by kernel_rfl
theorem watchkeeperlaw01_CrcBits.bits12 : waitsOk watchkeeperlaw01_CrcBits.T12.2 watchkeeperlaw01_CrcBits.B12 = true := by kernel_rfl
set_option maxHeartbeats 8000000 in
set_option maxRecDepth 100000 in
theorem watchkeeperlaw01_CrcBits.calls (A0 : Option Addr) (c0 : Nat) (l0 : List Int) (a1 : Int) (a2 : Bool) (r : Bool) (w : World) (hr0 : Kd.C (Kd.int .u8) w A0 l0.length l0) (hc0 : l0.length ≤ c0) (h : watchkeeperlaw01_CrcBits.f l0 a1 a2 = some r) :
    Calls Try.prog 5 #[.slice A0 l0.length c0, .int .u16 a1, .bool a2] w fun e w' => e = .returned (.bool r) ∧ Below w.heap.size w w' := by
  have HR0 := Aside0.mk hr0
  have HC0 := Aside0.mk hc0
  clear hr0 hc0
  have HB := Aside0.mk (Below.refl w.heap.size w)
  have H : ((watchkeeperlaw01_head.f).bind fun t117 => (if (l0.length : Int) > 4000 then (some t117) else ((crc_Seal.f l0).bind fun t118 => (if (t118.length : Int) < 2 then (some false) else (if (wrap64 ((wrap64 (8 * (t118.length : Int))) - 1)) = 0 then (none) else ((some (([] : List Int) : List Int)).bind fun y121 => (if y121.length + t118.length < 140737488355328 then ((some (y121 ++ t118 : List Int)).bind fun y124 => (if 0 ≤ (wrap64 (Int.tdiv (Int.tmod (wrap64 (a1)) (wrap64 ((wrap64 (8 * (t118.length : Int))) - 1))) 8)) then (if (wrap64 (Int.tdiv (Int.tmod (wrap64 (a1)) (wrap64 ((wrap64 (8 * (t118.length : Int))) - 1))) 8)) < (y124.length : Int) then (if 0 ≤ (Int.tmod (Int.tmod (wrap64 (a1)) (wrap64 ((wrap64 (8 * (t118.length : Int))) - 1))) 8) then ((some (y124.set ((wrap64 (Int.tdiv (Int.tmod (wrap64 (a1)) (wrap64 ((wrap64 (8 * (t118.length : Int))) - 1))) 8)) : Int).toNat (Go.bits .xor .u8 (rd y124 (wrap64 (Int.tdiv (Int.tmod (wrap64 (a1)) (wrap64 ((wrap64 (8 * (t118.length : Int))) - 1))) 8))) (shl .u8 1 (Int.tmod (Int.tmod (wrap64 (a1)) (wrap64 ((wrap64 (8 * (t118.length : Int))) - 1))) 8))) : List Int)).bind fun y128 => (if a2 = true then (if 0 ≤ (wrap64 (Int.tdiv (wrap64 ((Int.tmod (wrap64 (a1)) (wrap64 ((wrap64 (8 * (t118.length : Int))) - 1))) + 1)) 8)) then (if (wrap64 (Int.tdiv (wrap64 ((Int.tmod (wrap64 (a1)) (wrap64 ((wrap64 (8 * (t118.length : Int))) - 1))) + 1)) 8)) < (y124.length : Int) then (if 0 ≤ (Int.tmod (wrap64 ((Int.tmod (wrap64 (a1)) (wrap64 ((wrap64 (8 * (t118.length : Int))) - 1))) + 1)) 8) then ((crc_Open.f (y128.set ((wrap64 (Int.tdiv (wrap64 ((Int.tmod (wrap64 (a1)) (wrap64 ((wrap64 (8 * (t118.length : Int))) - 1))) + 1)) 8)) : Int).toNat (Go.bits .xor .u8 (rd y128 (wrap64 (Int.tdiv (wrap64 ((Int.tmod (wrap64 (a1)) (wrap64 ((wrap64 (8 * (t118.length : Int))) - 1))) + 1)) 8))) (shl .u8 1 (Int.tmod (wrap64 ((Int.tmod (wrap64 (a1)) (wrap64 ((wrap64 (8 * (t118.length : Int))) - 1))) + 1)) 8))))).bind fun bt131 => (if t117 = true then (some (!bt131.2)) else (some false))) else (none)) else (none)) else (none)) else ((crc_Open.f y128).bind fun bt135 => (if t117 = true then (some (!bt135.2)) else (some false))))) else (none)) else (none)) else (none))) else (none)))))))) = some r := h
  clear h
  replace H := Option.bind_eq_some_iff.mp H
  obtain ⟨t117, A40, H⟩ := H
  replace H : (if (l0.length : Int) > 4000 then (some t117) else ((crc_Seal.f l0).bind fun t118 => (if (t118.length : Int) < 2 then (some false) else (if (wrap64 ((wrap64 (8 * (t118.length : Int))) - 1)) = 0 then (none) else ((some (([] : List Int) : List Int)).bind fun y121 => (if y121.length + t118.length < 140737488355328 then ((some (y121 ++ t118 : List Int)).bind fun y124 => (if 0 ≤ (wrap64 (Int.tdiv (Int.tmod (wrap64 (a1)) (wrap64 ((wrap64 (8 * (t118.length : Int))) - 1))) 8)) then (if (wrap64 (Int.tdiv (Int.tmod (wrap64 (a1)) (wrap64 ((wrap64 (8 * (t118.length : Int))) - 1))) 8)) < (y124.length : Int) then (if 0 ≤ (Int.tmod (Int.tmod (wrap64 (a1)) (wrap64 ((wrap64 (8 * (t118.length : Int))) - 1))) 8) then ((some (y124.set ((wrap64 (Int.tdiv (Int.tmod (wrap64 (a1)) (wrap64 ((wrap64 (8 * (t118.length : Int))) - 1))) 8)) : Int).toNat (Go.bits .xor .u8 (rd y124 (wrap64 (Int.tdiv (Int.tmod (wrap64 (a1)) (wrap64 ((wrap64 (8 * (t118.length : Int))) - 1))) 8))) (shl .u8 1 (Int.tmod (Int.tmod (wrap64 (a1)) (wrap64 ((wrap64 (8 * (t118.length : Int))) - 1))) 8))) : List Int)).bind fun y128 => (if a2 = true then (if 0 ≤ (wrap64 (Int.tdiv (wrap64 ((Int.tmod (wrap64 (a1)) (wrap64 ((wrap64 (8 * (t118.length : Int))) - 1))) + 1)) 8)) then (if (wrap64 (Int.tdiv (wrap64 ((Int.tmod (wrap64 (a1)) (wrap64 ((wrap64 (8 * (t118.length : Int))) - 1))) + 1)) 8)) < (y124.length : Int) then (if 0 ≤ (Int.tmod (wrap64 ((Int.tmod (wrap64 (a1)) (wrap64 ((wrap64 (8 * (t118.length : Int))) - 1))) + 1)) 8) then ((crc_Open.f (y128.set ((wrap64 (Int.tdiv (wrap64 ((Int.tmod (wrap64 (a1)) (wrap64 ((wrap64 (8 * (t118.length : Int))) - 1))) + 1)) 8)) : Int).toNat (Go.bits .xor .u8 (rd y128 (wrap64 (Int.tdiv (wrap64 ((Int.tmod (wrap64 (a1)) (wrap64 ((wrap64 (8 * (t118.length : Int))) - 1))) + 1)) 8))) (shl .u8 1 (Int.tmod (wrap64 ((Int.tmod (wrap64 (a1)) (wrap64 ((wrap64 (8 * (t118.length : Int))) - 1))) + 1)) 8))))).bind fun bt131 => (if t117 = true then (some (!bt131.2)) else (some false))) else (none)) else (none)) else (none)) else ((crc_Open.f y128).bind fun bt135 => (if t117 = true then (some (!bt135.2)) else (some false))))) else (none)) else (none)) else (none))) else (none))))))) = some r := H
  have A4 := Aside0.mk A40
  clear A40
  by_cases c5 : (l0.length : Int) > 4000
  · rw [if_pos c5] at H
    have c5b0 : decide (4000 < (l0.length : Int)) = true := decide_eq_true c5
    have c5b1 : decide (4000 < l0.length) = true := decide_eq_true (by omega)
    clear c5
    obtain rfl := Option.some.inj H
    go_enter Try.func5, Try.ntmps5
    go_wp2_with (first | ((with_reducible refine gate_callee (f := 9) rfl ?_); refine goesL_ (some 13) rfl rfl Try.func9 (by kernel_rfl) rfl #[] rfl (by (try simp only [List.map_toArray, List.map_cons, List.map_nil]); first | done | rfl | (simp only [List.length_drop, List.length_take]; rfl)) ?_; (with_reducible refine (watchkeeperlaw01_head.calls  t117 _ A4.out).mono ?_); rintro e w6 ⟨rfl, hb⟩; refine ⟨_, rfl, ?_⟩; have n0_ := Aside0.mk (below_step (by repeat (first | (with_reducible first | exact HB.out | apply below_alloc | apply pw_below_drewN | apply below_drew1) | exact HB.out)) hb); clear HB; have HB := n0_; clear n0_; (try clear hb); (try clear hb2); (try clear hgn); (try clear hk); (try clear hi)))
    go_ret
    exact ⟨by first | rfl | (simp [errW_none, errW_some] <;> rfl) | (simp [*, errW_none, errW_some] <;> rfl), by repeat (first | (with_reducible first | exact HB.out | apply below_alloc | apply pw_below_drewN | apply below_drew1) | exact HB.out)⟩
  · rw [if_neg c5] at H
    have c5b0 : decide (4000 < (l0.length : Int)) = false := decide_eq_false c5
    have c5b1 : decide (4000 < l0.length) = false := decide_eq_false (by omega)
    clear c5
    replace H := Option.bind_eq_some_iff.mp H
    obtain ⟨t118, A70, H⟩ := H
    replace H : (if (t118.length : Int) < 2 then (some false) else (if (wrap64 ((wrap64 (8 * (t118.length : Int))) - 1)) = 0 then (none) else ((some (([] : List Int) : List Int)).bind fun y121 => (if y121.length + t118.length < 140737488355328 then ((some (y121 ++ t118 : List Int)).bind fun y124 => (if 0 ≤ (wrap64 (Int.tdiv (Int.tmod (wrap64 (a1)) (wrap64 ((wrap64 (8 * (t118.length : Int))) - 1))) 8)) then (if (wrap64 (Int.tdiv (Int.tmod (wrap64 (a1)) (wrap64 ((wrap64 (8 * (t118.length : Int))) - 1))) 8)) < (y124.length : Int) then (if 0 ≤ (Int.tmod (Int.tmod (wrap64 (a1)) (wrap64 ((wrap64 (8 * (t118.length : Int))) - 1))) 8) then ((some (y124.set ((wrap64 (Int.tdiv (Int.tmod (wrap64 (a1)) (wrap64 ((wrap64 (8 * (t118.length : Int))) - 1))) 8)) : Int).toNat (Go.bits .xor .u8 (rd y124 (wrap64 (Int.tdiv (Int.tmod (wrap64 (a1)) (wrap64 ((wrap64 (8 * (t118.length : Int))) - 1))) 8))) (shl .u8 1 (Int.tmod (Int.tmod (wrap64 (a1)) (wrap64 ((wrap64 (8 * (t118.length : Int))) - 1))) 8))) : List Int)).bind fun y128 => (if a2 = true then (if 0 ≤ (wrap64 (Int.tdiv (wrap64 ((Int.tmod (wrap64 (a1)) (wrap64 ((wrap64 (8 * (t118.length : Int))) - 1))) + 1)) 8)) then (if (wrap64 (Int.tdiv (wrap64 ((Int.tmod (wrap64 (a1)) (wrap64 ((wrap64 (8 * (t118.length : Int))) - 1))) + 1)) 8)) < (y124.length : Int) then (if 0 ≤ (Int.tmod (wrap64 ((Int.tmod (wrap64 (a1)) (wrap64 ((wrap64 (8 * (t118.length : Int))) - 1))) + 1)) 8) then ((crc_Open.f (y128.set ((wrap64 (Int.tdiv (wrap64 ((Int.tmod (wrap64 (a1)) (wrap64 ((wrap64 (8 * (t118.length : Int))) - 1))) + 1)) 8)) : Int).toNat (Go.bits .xor .u8 (rd y128 (wrap64 (Int.tdiv (wrap64 ((Int.tmod (wrap64 (a1)) (wrap64 ((wrap64 (8 * (t118.length : Int))) - 1))) + 1)) 8))) (shl .u8 1 (Int.tmod (wrap64 ((Int.tmod (wrap64 (a1)) (wrap64 ((wrap64 (8 * (t118.length : Int))) - 1))) + 1)) 8))))).bind fun bt131 => (if t117 = true then (some (!bt131.2)) else (some false))) else (none)) else (none)) else (none)) else ((crc_Open.f y128).bind fun bt135 => (if t117 = true then (some (!bt135.2)) else (some false))))) else (none)) else (none)) else (none))) else (none))))) = some r := H
    have A7 := Aside0.mk A70
    clear A70
    by_cases c8 : (t118.length : Int) < 2
    · rw [if_pos c8] at H
      have c8b0 : decide ((t118.length : Int) < 2) = true := decide_eq_true c8
      have c8b1 : decide (t118.length < 2) = true := decide_eq_true (by omega)
      clear c8
      obtain rfl := Option.some.inj H
      go_enter Try.func5, Try.ntmps5
      go_wp2_with (first | ((with_reducible refine gate_callee (f := 9) rfl ?_); refine goesL_ (some 13) rfl rfl Try.func9 (by kernel_rfl) rfl #[] rfl (by (try simp only [List.map_toArray, List.map_cons, List.map_nil]); first | done | rfl | (simp only [List.length_drop, List.length_take]; rfl)) ?_; (with_reducible refine (watchkeeperlaw01_head.calls  t117 _ A4.out).mono ?_); rintro e w9 ⟨rfl, hb⟩; refine ⟨_, rfl, ?_⟩; have n0_ := Aside0.mk (below_step (by repeat (first | (with_reducible first | exact HB.out | apply below_alloc | apply pw_below_drewN | apply below_drew1) | exact HB.out)) hb); clear HB; have HB := n0_; clear n0_; (try clear hb); (try clear hb2); (try clear hgn); (try clear hk); (try clear hi)) | ((with_reducible refine gate_callee (f := 14) rfl ?_); refine goesL_ (some 19) rfl rfl Try.func14 (by kernel_rfl) rfl #[.slice A0 l0.length c0] rfl (by (try simp only [List.map_toArray, List.map_cons, List.map_nil]); first | done | rfl | (simp only [List.length_drop, List.length_take]; rfl)) ?_; (with_reducible refine (crc_Seal.calls _ _ l0 t118 _ ?side1 ?side2 A7.out).mono ?_); (case side1 => repeat (first | exact (Kd.C_below HR0.out HB.out) | (with_reducible refine Kd.C_alloc ?_ _) | (with_reducible refine Kd.C_drewN ?_ _) | (with_reducible refine Kd.C_drew ?_))); (case side2 => exact HC0.out); rintro e w10 ⟨v119, rfl, ho0, hb⟩; refine ⟨_, rfl, ?_⟩; have n0_ := Aside0.mk (Kd.R_lower ho0 (below_size (by repeat (first | (with_reducible first | exact HB.out | apply below_alloc | apply pw_below_drewN | apply below_drew1) | exact HB.out)))); have n1_ := Aside0.mk (below_step (by repeat (first | (with_reducible first | exact HB.out | apply below_alloc | apply pw_below_drewN | apply below_drew1) | exact HB.out)) hb); clear HB; have HO120 := n0_; have HB := n1_; clear n0_ n1_; (try clear hb); (try clear hb2); (try clear hgn); (try clear hk); (try clear hi); (try clear ho0); obtain ⟨Ao11, co11, eo11⟩ := Kd.R_slice HO120.out; subst eo11))
      go_ret
      exact ⟨by first | rfl | (simp [errW_none, errW_some] <;> rfl) | (simp [*, errW_none, errW_some] <;> rfl), by repeat (first | (with_reducible first | exact HB.out | apply below_alloc | apply pw_below_drewN | apply below_drew1) | exact HB.out)⟩
    · rw [if_neg c8] at H
      have c8b0 : decide ((t118.length : Int) < 2) = false := decide_eq_false c8
      have c8b1 : decide (t118.length < 2) = false := decide_eq_false (by omega)
      clear c8
      by_cases c12 : (wrap64 ((wrap64 (8 * (t118.length : Int))) - 1)) = 0
      · rw [if_pos c12] at H
        exact absurd H (by simp)
      · rw [if_neg c12] at H
        have c12b0 : ((wrap64 ((wrap64 (8 * (t118.length : Int))) - 1)) == 0) = false := beq_eq_false_iff_ne.mpr c12
        have c12b1 : ((wrap64 ((wrap64 (8 * (t118.length : Int))) - 1)) != 0) = true := bne_iff_ne.mpr c12
        obtain ⟨y121, hy121⟩ : ∃ y_ : List Int, y_ = (([] : List Int)) := ⟨_, rfl⟩
        replace H : (if y121.length + t118.length < 140737488355328 then ((some (y121 ++ t118 : List Int)).bind fun y124 => (if 0 ≤ (wrap64 (Int.tdiv (Int.tmod (wrap64 (a1)) (wrap64 ((wrap64 (8 * (t118.length : Int))) - 1))) 8)) then (if (wrap64 (Int.tdiv (Int.tmod (wrap64 (a1)) (wrap64 ((wrap64 (8 * (t118.length : Int))) - 1))) 8)) < (y124.length : Int) then (if 0 ≤ (Int.tmod (Int.tmod (wrap64 (a1)) (wrap64 ((wrap64 (8 * (t118.length : Int))) - 1))) 8) then ((some (y124.set ((wrap64 (Int.tdiv (Int.tmod (wrap64 (a1)) (wrap64 ((wrap64 (8 * (t118.length : Int))) - 1))) 8)) : Int).toNat (Go.bits .xor .u8 (rd y124 (wrap64 (Int.tdiv (Int.tmod (wrap64 (a1)) (wrap64 ((wrap64 (8 * (t118.length : Int))) - 1))) 8))) (shl .u8 1 (Int.tmod (Int.tmod (wrap64 (a1)) (wrap64 ((wrap64 (8 * (t118.length : Int))) - 1))) 8))) : List Int)).bind fun y128 => (if a2 = true then (if 0 ≤ (wrap64 (Int.tdiv (wrap64 ((Int.tmod (wrap64 (a1)) (wrap64 ((wrap64 (8 * (t118.length : Int))) - 1))) + 1)) 8)) then (if (wrap64 (Int.tdiv (wrap64 ((Int.tmod (wrap64 (a1)) (wrap64 ((wrap64 (8 * (t118.length : Int))) - 1))) + 1)) 8)) < (y124.length : Int) then (if 0 ≤ (Int.tmod (wrap64 ((Int.tmod (wrap64 (a1)) (wrap64 ((wrap64 (8 * (t118.length : Int))) - 1))) + 1)) 8) then ((crc_Open.f (y128.set ((wrap64 (Int.tdiv (wrap64 ((Int.tmod (wrap64 (a1)) (wrap64 ((wrap64 (8 * (t118.length : Int))) - 1))) + 1)) 8)) : Int).toNat (Go.bits .xor .u8 (rd y128 (wrap64 (Int.tdiv (wrap64 ((Int.tmod (wrap64 (a1)) (wrap64 ((wrap64 (8 * (t118.length : Int))) - 1))) + 1)) 8))) (shl .u8 1 (Int.tmod (wrap64 ((Int.tmod (wrap64 (a1)) (wrap64 ((wrap64 (8 * (t118.length : Int))) - 1))) + 1)) 8))))).bind fun bt131 => (if t117 = true then (some (!bt131.2)) else (some false))) else (none)) else (none)) else (none)) else ((crc_Open.f y128).bind fun bt135 => (if t117 = true then (some (!bt135.2)) else (some false))))) else (none)) else (none)) else (none))) else (none)) = some r := by first | (rw [hy121]; with_reducible exact H) | (have H2_ := (Option.bind_some _ _).symm.trans H; rw [hy121]; with_reducible exact H2_) | (have H2_ := (Option.bind_some _ _).symm.trans H; with_reducible exact H2_) | with_reducible exact H | (rw [hy121]; exact H) | exact H
        have Ny121 := Aside0.mk hy121
        clear hy121
        by_cases c13 : y121.length + t118.length < 140737488355328
        · rw [if_pos c13] at H
          have LMc13 := Aside0.mk c13
          clear c13
          obtain ⟨y124, hy124⟩ : ∃ y_ : List Int, y_ = (y121 ++ t118) := ⟨_, rfl⟩
          replace H : (if 0 ≤ (wrap64 (Int.tdiv (Int.tmod (wrap64 (a1)) (wrap64 ((wrap64 (8 * (t118.length : Int))) - 1))) 8)) then (if (wrap64 (Int.tdiv (Int.tmod (wrap64 (a1)) (wrap64 ((wrap64 (8 * (t118.length : Int))) - 1))) 8)) < (y124.length : Int) then (if 0 ≤ (Int.tmod (Int.tmod (wrap64 (a1)) (wrap64 ((wrap64 (8 * (t118.length : Int))) - 1))) 8) then ((some (y124.set ((wrap64 (Int.tdiv (Int.tmod (wrap64 (a1)) (wrap64 ((wrap64 (8 * (t118.length : Int))) - 1))) 8)) : Int).toNat (Go.bits .xor .u8 (rd y124 (wrap64 (Int.tdiv (Int.tmod (wrap64 (a1)) (wrap64 ((wrap64 (8 * (t118.length : Int))) - 1))) 8))) (shl .u8 1 (Int.tmod (Int.tmod (wrap64 (a1)) (wrap64 ((wrap64 (8 * (t118.length : Int))) - 1))) 8))) : List Int)).bind fun y128 => (if a2 = true then (if 0 ≤ (wrap64 (Int.tdiv (wrap64 ((Int.tmod (wrap64 (a1)) (wrap64 ((wrap64 (8 * (t118.length : Int))) - 1))) + 1)) 8)) then (if (wrap64 (Int.tdiv (wrap64 ((Int.tmod (wrap64 (a1)) (wrap64 ((wrap64 (8 * (t118.length : Int))) - 1))) + 1)) 8)) < (y124.length : Int) then (if 0 ≤ (Int.tmod (wrap64 ((Int.tmod (wrap64 (a1)) (wrap64 ((wrap64 (8 * (t118.length : Int))) - 1))) + 1)) 8) then ((crc_Open.f (y128.set ((wrap64 (Int.tdiv (wrap64 ((Int.tmod (wrap64 (a1)) (wrap64 ((wrap64 (8 * (t118.length : Int))) - 1))) + 1)) 8)) : Int).toNat (Go.bits .xor .u8 (rd y128 (wrap64 (Int.tdiv (wrap64 ((Int.tmod (wrap64 (a1)) (wrap64 ((wrap64 (8 * (t118.length : Int))) - 1))) + 1)) 8))) (shl .u8 1 (Int.tmod (wrap64 ((Int.tmod (wrap64 (a1)) (wrap64 ((wrap64 (8 * (t118.length : Int))) - 1))) + 1)) 8))))).bind fun bt131 => (if t117 = true then (some (!bt131.2)) else (some false))) else (none)) else (none)) else (none)) else ((crc_Open.f y128).bind fun bt135 => (if t117 = true then (some (!bt135.2)) else (some false))))) else (none)) else (none)) else (none)) = some r := by first | (rw [hy124]; with_reducible exact H) | (have H2_ := (Option.bind_some _ _).symm.trans H; rw [hy124]; with_reducible exact H2_) | (have H2_ := (Option.bind_some _ _).symm.trans H; with_reducible exact H2_) | with_reducible exact H | (rw [hy124]; exact H) | exact H
          have Ny124 := Aside0.mk hy124
          clear hy124
          obtain ⟨ji14, hji14⟩ : ∃ j_ : Int, (wrap64 (Int.tdiv (Int.tmod (wrap64 (a1)) (wrap64 ((wrap64 (8 * (t118.length : Int))) - 1))) 8)) = j_ := ⟨_, rfl⟩
          replace H : (if 0 ≤ (ji14) then (if (ji14) < (y124.length : Int) then (if 0 ≤ (Int.tmod (Int.tmod (wrap64 (a1)) (wrap64 ((wrap64 (8 * (t118.length : Int))) - 1))) 8) then ((some (y124.set ((ji14) : Int).toNat (Go.bits .xor .u8 (rd y124 (ji14)) (shl .u8 1 (Int.tmod (Int.tmod (wrap64 (a1)) (wrap64 ((wrap64 (8 * (t118.length : Int))) - 1))) 8))) : List Int)).bind fun y128 => (if a2 = true then (if 0 ≤ (wrap64 (Int.tdiv (wrap64 ((Int.tmod (wrap64 (a1)) (wrap64 ((wrap64 (8 * (t118.length : Int))) - 1))) + 1)) 8)) then (if (wrap64 (Int.tdiv (wrap64 ((Int.tmod (wrap64 (a1)) (wrap64 ((wrap64 (8 * (t118.length : Int))) - 1))) + 1)) 8)) < (y124.length : Int) then (if 0 ≤ (Int.tmod (wrap64 ((Int.tmod (wrap64 (a1)) (wrap64 ((wrap64 (8 * (t118.length : Int))) - 1))) + 1)) 8) then ((crc_Open.f (y128.set ((wrap64 (Int.tdiv (wrap64 ((Int.tmod (wrap64 (a1)) (wrap64 ((wrap64 (8 * (t118.length : Int))) - 1))) + 1)) 8)) : Int).toNat (Go.bits .xor .u8 (rd y128 (wrap64 (Int.tdiv (wrap64 ((Int.tmod (wrap64 (a1)) (wrap64 ((wrap64 (8 * (t118.length : Int))) - 1))) + 1)) 8))) (shl .u8 1 (Int.tmod (wrap64 ((Int.tmod (wrap64 (a1)) (wrap64 ((wrap64 (8 * (t118.length : Int))) - 1))) + 1)) 8))))).bind fun bt131 => (if t117 = true then (some (!bt131.2)) else (some false))) else (none)) else (none)) else (none)) else ((crc_Open.f y128).bind fun bt135 => (if t117 = true then (some (!bt135.2)) else (some false))))) else (none)) else (none)) else (none)) = some r := by first | (rw [hji14] at H; exact H) | (simp only [hji14] at H ⊢; exact H)
          (try rw [hji14] at A4)
          (try rw [hji14] at A7)
          have hji14w : (IntKind.i64.wrap (Int.tdiv (Int.tmod (wrap64 (a1)) (wrap64 ((wrap64 (8 * (t118.length : Int))) - 1))) 8)) = ji14 := (i64_w _).trans hji14
          by_cases c15 : 0 ≤ (ji14)
          · rw [if_pos c15] at H
            have c15b0 : decide (0 ≤ (ji14)) = true := decide_eq_true c15
            clear c15
            by_cases c16 : (ji14) < (y124.length : Int)
            · rw [if_pos c16] at H
              have c16b0 : decide ((ji14) < (y124.length : Int)) = true := decide_eq_true c16
              clear c16
              obtain ⟨ji17, hji17⟩ : ∃ j_ : Int, (Int.tmod (Int.tmod (wrap64 (a1)) (wrap64 ((wrap64 (8 * (t118.length : Int))) - 1))) 8) = j_ := ⟨_, rfl⟩
              replace H : (if 0 ≤ (ji17) then ((some (y124.set ((ji14) : Int).toNat (Go.bits .xor .u8 (rd y124 (ji14)) (shl .u8 1 (ji17))) : List Int)).bind fun y128 => (if a2 = true then (if 0 ≤ (wrap64 (Int.tdiv (wrap64 ((Int.tmod (wrap64 (a1)) (wrap64 ((wrap64 (8 * (t118.length : Int))) - 1))) + 1)) 8)) then (if (wrap64 (Int.tdiv (wrap64 ((Int.tmod (wrap64 (a1)) (wrap64 ((wrap64 (8 * (t118.length : Int))) - 1))) + 1)) 8)) < (y124.length : Int) then (if 0 ≤ (Int.tmod (wrap64 ((Int.tmod (wrap64 (a1)) (wrap64 ((wrap64 (8 * (t118.length : Int))) - 1))) + 1)) 8) then ((crc_Open.f (y128.set ((wrap64 (Int.tdiv (wrap64 ((Int.tmod (wrap64 (a1)) (wrap64 ((wrap64 (8 * (t118.length : Int))) - 1))) + 1)) 8)) : Int).toNat (Go.bits .xor .u8 (rd y128 (wrap64 (Int.tdiv (wrap64 ((Int.tmod (wrap64 (a1)) (wrap64 ((wrap64 (8 * (t118.length : Int))) - 1))) + 1)) 8))) (shl .u8 1 (Int.tmod (wrap64 ((Int.tmod (wrap64 (a1)) (wrap64 ((wrap64 (8 * (t118.length : Int))) - 1))) + 1)) 8))))).bind fun bt131 => (if t117 = true then (some (!bt131.2)) else (some false))) else (none)) else (none)) else (none)) else ((crc_Open.f y128).bind fun bt135 => (if t117 = true then (some (!bt135.2)) else (some false))))) else (none)) = some r := by first | (rw [hji17] at H; exact H) | (simp only [hji17] at H ⊢; exact H)
              (try rw [hji17] at A4)
              (try rw [hji17] at A7)
              by_cases c18 : 0 ≤ (ji17)
              · rw [if_pos c18] at H
                have c18b0 := eq_true c18
                have c18b1 : decide (0 ≤ (ji17)) = true := decide_eq_true c18
                clear c18
                obtain ⟨ji19, hji19⟩ : ∃ j_ : Int, (shl .u8 1 (ji17)) = j_ := ⟨_, rfl⟩
                replace H : ((some (y124.set ((ji14) : Int).toNat (Go.bits .xor .u8 (rd y124 (ji14)) (ji19)) : List Int)).bind fun y128 => (if a2 = true then (if 0 ≤ (wrap64 (Int.tdiv (wrap64 ((Int.tmod (wrap64 (a1)) (wrap64 ((wrap64 (8 * (t118.length : Int))) - 1))) + 1)) 8)) then (if (wrap64 (Int.tdiv (wrap64 ((Int.tmod (wrap64 (a1)) (wrap64 ((wrap64 (8 * (t118.length : Int))) - 1))) + 1)) 8)) < (y124.length : Int) then (if 0 ≤ (Int.tmod (wrap64 ((Int.tmod (wrap64 (a1)) (wrap64 ((wrap64 (8 * (t118.length : Int))) - 1))) + 1)) 8) then ((crc_Open.f (y128.set ((wrap64 (Int.tdiv (wrap64 ((Int.tmod (wrap64 (a1)) (wrap64 ((wrap64 (8 * (t118.length : Int))) - 1))) + 1)) 8)) : Int).toNat (Go.bits .xor .u8 (rd y128 (wrap64 (Int.tdiv (wrap64 ((Int.tmod (wrap64 (a1)) (wrap64 ((wrap64 (8 * (t118.length : Int))) - 1))) + 1)) 8))) (shl .u8 1 (Int.tmod (wrap64 ((Int.tmod (wrap64 (a1)) (wrap64 ((wrap64 (8 * (t118.length : Int))) - 1))) + 1)) 8))))).bind fun bt131 => (if t117 = true then (some (!bt131.2)) else (some false))) else (none)) else (none)) else (none)) else ((crc_Open.f y128).bind fun bt135 => (if t117 = true then (some (!bt135.2)) else (some false))))) = some r := by first | (rw [hji19] at H; exact H) | (simp only [hji19] at H ⊢; exact H)
                (try rw [hji19] at A4)
                (try rw [hji19] at A7)
                have hji19_ : (IntKind.u8.wrap (1 * 2 ^ min (ji17).toNat 8)) = ji19 := hji19
                have hji19z : (ji17) ≤ 8 → (IntKind.u8.wrap (1 * 2 ^ (ji17).toNat)) = ji19 := shl_small hji19
                have hji19u : (IntKind.u8.wrap (2 ^ min (ji17).toNat 8)) = ji19 := by have h_ := hji19_; rw [Int.one_mul] at h_; exact h_
                have hji19v : (ji17) ≤ 8 → (IntKind.u8.wrap (2 ^ (ji17).toNat)) = ji19 := fun hle_ => by have h_ := hji19z hle_; rw [Int.one_mul] at h_; exact h_
                obtain ⟨y128, hy128⟩ : ∃ y_ : List Int, y_ = (y124.set ((ji14) : Int).toNat (Go.bits .xor .u8 (rd y124 (ji14)) (ji19))) := ⟨_, rfl⟩
                replace H : (if a2 = true then (if 0 ≤ (wrap64 (Int.tdiv (wrap64 ((Int.tmod (wrap64 (a1)) (wrap64 ((wrap64 (8 * (t118.length : Int))) - 1))) + 1)) 8)) then (if (wrap64 (Int.tdiv (wrap64 ((Int.tmod (wrap64 (a1)) (wrap64 ((wrap64 (8 * (t118.length : Int))) - 1))) + 1)) 8)) < (y124.length : Int) then (if 0 ≤ (Int.tmod (wrap64 ((Int.tmod (wrap64 (a1)) (wrap64 ((wrap64 (8 * (t118.length : Int))) - 1))) + 1)) 8) then ((crc_Open.f (y128.set ((wrap64 (Int.tdiv (wrap64 ((Int.tmod (wrap64 (a1)) (wrap64 ((wrap64 (8 * (t118.length : Int))) - 1))) + 1)) 8)) : Int).toNat (Go.bits .xor .u8 (rd y128 (wrap64 (Int.tdiv (wrap64 ((Int.tmod (wrap64 (a1)) (wrap64 ((wrap64 (8 * (t118.length : Int))) - 1))) + 1)) 8))) (shl .u8 1 (Int.tmod (wrap64 ((Int.tmod (wrap64 (a1)) (wrap64 ((wrap64 (8 * (t118.length : Int))) - 1))) + 1)) 8))))).bind fun bt131 => (if t117 = true then (some (!bt131.2)) else (some false))) else (none)) else (none)) else (none)) else ((crc_Open.f y128).bind fun bt135 => (if t117 = true then (some (!bt135.2)) else (some false)))) = some r := by first | (rw [hy128]; with_reducible exact H) | (have H2_ := (Option.bind_some _ _).symm.trans H; rw [hy128]; with_reducible exact H2_) | (have H2_ := (Option.bind_some _ _).symm.trans H; with_reducible exact H2_) | with_reducible exact H | (rw [hy128]; exact H) | exact H
                have Ny128 := Aside0.mk hy128
                clear hy128
                by_cases c21 : a2 = true
                · subst c21
                  have H1 : (if 0 ≤ (wrap64 (Int.tdiv (wrap64 ((Int.tmod (wrap64 (a1)) (wrap64 ((wrap64 (8 * (t118.length : Int))) - 1))) + 1)) 8)) then (if (wrap64 (Int.tdiv (wrap64 ((Int.tmod (wrap64 (a1)) (wrap64 ((wrap64 (8 * (t118.length : Int))) - 1))) + 1)) 8)) < (y124.length : Int) then (if 0 ≤ (Int.tmod (wrap64 ((Int.tmod (wrap64 (a1)) (wrap64 ((wrap64 (8 * (t118.length : Int))) - 1))) + 1)) 8) then ((crc_Open.f (y128.set ((wrap64 (Int.tdiv (wrap64 ((Int.tmod (wrap64 (a1)) (wrap64 ((wrap64 (8 * (t118.length : Int))) - 1))) + 1)) 8)) : Int).toNat (Go.bits .xor .u8 (rd y128 (wrap64 (Int.tdiv (wrap64 ((Int.tmod (wrap64 (a1)) (wrap64 ((wrap64 (8 * (t118.length : Int))) - 1))) + 1)) 8))) (shl .u8 1 (Int.tmod (wrap64 ((Int.tmod (wrap64 (a1)) (wrap64 ((wrap64 (8 * (t118.length : Int))) - 1))) + 1)) 8))))).bind fun bt131 => (if t117 = true then (some (!bt131.2)) else (some false))) else (none)) else (none)) else (none)) = some r := by rw [if_pos rfl] at H; exact H
                  clear H
                  have H := H1
                  clear H1
                  obtain ⟨ji22, hji22⟩ : ∃ j_ : Int, (wrap64 (Int.tdiv (wrap64 ((Int.tmod (wrap64 (a1)) (wrap64 ((wrap64 (8 * (t118.length : Int))) - 1))) + 1)) 8)) = j_ := ⟨_, rfl⟩
                  replace H : (if 0 ≤ (ji22) then (if (ji22) < (y124.length : Int) then (if 0 ≤ (Int.tmod (wrap64 ((Int.tmod (wrap64 (a1)) (wrap64 ((wrap64 (8 * (t118.length : Int))) - 1))) + 1)) 8) then ((crc_Open.f (y128.set ((ji22) : Int).toNat (Go.bits .xor .u8 (rd y128 (ji22)) (shl .u8 1 (Int.tmod (wrap64 ((Int.tmod (wrap64 (a1)) (wrap64 ((wrap64 (8 * (t118.length : Int))) - 1))) + 1)) 8))))).bind fun bt131 => (if t117 = true then (some (!bt131.2)) else (some false))) else (none)) else (none)) else (none)) = some r := by first | (rw [hji22] at H; exact H) | (simp only [hji22] at H ⊢; exact H)
                  (try rw [hji22] at A4)
                  (try rw [hji22] at A7)
                  have hji22w : (IntKind.i64.wrap (Int.tdiv (wrap64 ((Int.tmod (wrap64 (a1)) (wrap64 ((wrap64 (8 * (t118.length : Int))) - 1))) + 1)) 8)) = ji22 := (i64_w _).trans hji22
                  by_cases c23 : 0 ≤ (ji22)
                  · rw [if_pos c23] at H
                    have c23b0 : decide (0 ≤ (ji22)) = true := decide_eq_true c23
                    clear c23
                    by_cases c24 : (ji22) < (y124.length : Int)
                    · rw [if_pos c24] at H
                      have c24b0 : decide ((ji22) < (y124.length : Int)) = true := decide_eq_true c24
                      clear c24
                      obtain ⟨ji25, hji25⟩ : ∃ j_ : Int, (Int.tmod (wrap64 ((Int.tmod (wrap64 (a1)) (wrap64 ((wrap64 (8 * (t118.length : Int))) - 1))) + 1)) 8) = j_ := ⟨_, rfl⟩
                      replace H : (if 0 ≤ (ji25) then ((crc_Open.f (y128.set ((ji22) : Int).toNat (Go.bits .xor .u8 (rd y128 (ji22)) (shl .u8 1 (ji25))))).bind fun bt131 => (if t117 = true then (some (!bt131.2)) else (some false))) else (none)) = some r := by first | (rw [hji25] at H; exact H) | (simp only [hji25] at H ⊢; exact H)
                      (try rw [hji25] at A4)
                      (try rw [hji25] at A7)
                      by_cases c26 : 0 ≤ (ji25)
                      · rw [if_pos c26] at H
                        have c26b0 := eq_true c26
                        have c26b1 : decide (0 ≤ (ji25)) = true := decide_eq_true c26
                        clear c26
                        obtain ⟨ji27, hji27⟩ : ∃ j_ : Int, (shl .u8 1 (ji25)) = j_ := ⟨_, rfl⟩
                        replace H : ((crc_Open.f (y128.set ((ji22) : Int).toNat (Go.bits .xor .u8 (rd y128 (ji22)) (ji27)))).bind fun bt131 => (if t117 = true then (some (!bt131.2)) else (some false))) = some r := by first | (rw [hji27] at H; exact H) | (simp only [hji27] at H ⊢; exact H)
                        (try rw [hji27] at A4)
                        (try rw [hji27] at A7)
                        have hji27_ : (IntKind.u8.wrap (1 * 2 ^ min (ji25).toNat 8)) = ji27 := hji27
                        have hji27z : (ji25) ≤ 8 → (IntKind.u8.wrap (1 * 2 ^ (ji25).toNat)) = ji27 := shl_small hji27
                        have hji27u : (IntKind.u8.wrap (2 ^ min (ji25).toNat 8)) = ji27 := by have h_ := hji27_; rw [Int.one_mul] at h_; exact h_
                        have hji27v : (ji25) ≤ 8 → (IntKind.u8.wrap (2 ^ (ji25).toNat)) = ji27 := fun hle_ => by have h_ := hji27z hle_; rw [Int.one_mul] at h_; exact h_
                        obtain ⟨y130, hy130⟩ : ∃ y_ : List Int, y_ = (y128.set ((ji22) : Int).toNat (Go.bits .xor .u8 (rd y128 (ji22)) (ji27))) := ⟨_, rfl⟩
                        replace H : ((crc_Open.f y130).bind fun bt131 => (if t117 = true then (some (!bt131.2)) else (some false))) = some r := by first | (rw [hy130]; with_reducible exact H) | (have H2_ := (Option.bind_some _ _).symm.trans H; rw [hy130]; with_reducible exact H2_) | (have H2_ := (Option.bind_some _ _).symm.trans H; with_reducible exact H2_) | with_reducible exact H | (rw [hy130]; exact H) | exact H
                        have Ny130 := Aside0.mk hy130
                        clear hy130
                        replace H := Option.bind_eq_some_iff.mp H
                        obtain ⟨⟨t131, t132⟩, A290, H⟩ := H
                        replace H : (if t117 = true then (some (!t132)) else (some false)) = some r := H
                        have A29 := Aside0.mk A290
                        clear A290
                        by_cases c30 : t117 = true
                        · subst c30
                          have H1 : (some (!t132)) = some r := by rw [if_pos rfl] at H; exact H
                          clear H
                          have H := H1
                          clear H1
                          obtain rfl := Option.some.inj H
                          go_enter Try.func5, Try.ntmps5
                          try go_wp2_with (first | ((with_reducible refine gate_callee (f := 9) rfl ?_); refine goesL_ (some 13) rfl rfl Try.func9 (by kernel_rfl) rfl #[] rfl (by (try simp only [List.map_toArray, List.map_cons, List.map_nil]); first | done | rfl | (simp only [List.length_drop, List.length_take]; rfl)) ?_; (with_reducible refine (watchkeeperlaw01_head.calls  true _ A4.out).mono ?_); rintro e w31 ⟨rfl, hb⟩; refine ⟨_, rfl, ?_⟩; have n0_ := Aside0.mk (below_step (by repeat (first | (with_reducible first | exact HB.out | apply below_alloc | apply pw_below_drewN | apply below_drew1) | exact HB.out)) hb); clear HB; have HB := n0_; clear n0_; (try clear hb); (try clear hb2); (try clear hgn); (try clear hk); (try clear hi)) | ((with_reducible refine gate_callee (f := 14) rfl ?_); refine goesL_ (some 19) rfl rfl Try.func14 (by kernel_rfl) rfl #[.slice A0 l0.length c0] rfl (by (try simp only [List.map_toArray, List.map_cons, List.map_nil]); first | done | rfl | (simp only [List.length_drop, List.length_take]; rfl)) ?_; (with_reducible refine (crc_Seal.calls _ _ l0 t118 _ ?side1 ?side2 A7.out).mono ?_); (case side1 => repeat (first | exact (Kd.C_below HR0.out HB.out) | (with_reducible refine Kd.C_alloc ?_ _) | (with_reducible refine Kd.C_drewN ?_ _) | (with_reducible refine Kd.C_drew ?_))); (case side2 => exact HC0.out); rintro e w32 ⟨v119, rfl, ho0, hb⟩; refine ⟨_, rfl, ?_⟩; have n0_ := Aside0.mk (Kd.R_lower ho0 (below_size (by repeat (first | (with_reducible first | exact HB.out | apply below_alloc | apply pw_below_drewN | apply below_drew1) | exact HB.out)))); have n1_ := Aside0.mk (below_step (by repeat (first | (with_reducible first | exact HB.out | apply below_alloc | apply pw_below_drewN | apply below_drew1) | exact HB.out)) hb); clear HB; have HO120 := n0_; have HB := n1_; clear n0_ n1_; (try clear hb); (try clear hb2); (try clear hgn); (try clear hk); (try clear hi); (try clear ho0); obtain ⟨Ao33, co33, eo33⟩ := Kd.R_slice HO120.out; subst eo33) | ((with_reducible refine gate_dst (N := 30) rfl ?_); refine Kd.R_lit (Kd.int .u8) _ 5 ?hg (N := 30) ?hd (xs := ([] : List Int)) (inner := []) (ok := fun _ => True) (okp := fun _ => True) ?hr ?hp (fun _ hk => hk) trivial (Below.refl _ _) (Nat.le_refl _) (by simp) ?_; (case hd => rfl); (case hg => rfl); (case hr => first | (go_simp; done) | (go_simp; rfl)); (case hp => exact (Reps.none _ _)); intro v122 w34 ho35 hb hg_ hnew_; clear hg_ hnew_; (first | rw [← Ny121.out] at ho35 | (simp only [Int.reduceToNat] at ho35; rw [← Ny121.out] at ho35)); have n0_ := Aside0.mk (Kd.R_elder' (by (with_reducible repeat (first | apply Kd.R_alloc | apply Kd.R_drewN | apply Kd.R_drew)); exact HO120.out) (Kd.R_base ho35) hb); have n1_ := Aside0.mk (Kd.R_lower (Kd.R_new' ho35 (Kd.R_lt (by (with_reducible repeat (first | apply Kd.R_alloc | apply Kd.R_drewN | apply Kd.R_drew)); exact HO120.out))) (below_size (by repeat (first | (with_reducible first | exact HB.out | apply below_alloc | apply pw_below_drewN | apply below_drew1) | exact HB.out)))); have n2_ := Aside0.mk (below_step (by repeat (first | (with_reducible first | exact HB.out | apply below_alloc | apply pw_below_drewN | apply below_drew1) | exact HB.out)) hb); clear HO120; clear HB; have HO120 := n0_; have HO123 := n1_; have HB := n2_; clear n0_ n1_ n2_; clear hb ho35) | ((with_reducible refine gate_builtin (b := .append) (xs := #[.tmp 30, .tmp 31]) rfl ?_); at_builtin; refine Kd.R_append_rows (Kd.int .u8) (w0 := w) w.heap.size rfl (.tmp 30) (.tmp 31) 22 5 (.int .u8 0) 1 rfl Try.underlying22 info5 rfl (by decide) (by omega) v122 y121 t118 _ _ _ (fun k_ => some k_ ≠ (.slice Ao33 t118.length co33 : Value).ownBlock) (fun _ => False) rfl rfl ?aO ?aR (fun _ _ h => h) (fun _ h => h.elim) ?aF ?aB ?aS ?aL ?_; (case aR => repeat (first | exact (Kd.R_reads' HO120.out).2.2 | (with_reducible refine Kd.C_alloc ?_ _) | (with_reducible refine Kd.C_drewN ?_ _) | (with_reducible refine Kd.C_drew ?_))); (case aB => exact (by repeat (first | (with_reducible first | exact HB.out | apply below_alloc | apply pw_below_drewN | apply below_drew1) | exact HB.out))); (case aF => exact (fun k_ hk => Kd.fresh' (Kd.R_lt (by (with_reducible repeat (first | apply Kd.R_alloc | apply Kd.R_drewN | apply Kd.R_drew)); exact HO120.out)) k_ hk)); (case aO => exact (by (with_reducible repeat (first | apply Kd.R_alloc | apply Kd.R_drewN | apply Kd.R_drew)); exact Kd.R_mono HO123.out (fun _ hk => hk.2))); (case aS => exact (below_size (by repeat (first | (with_reducible first | exact HB.out | apply below_alloc | apply pw_below_drewN | apply below_drew1) | exact HB.out)))); (case aL => have := LMc13.out; omega); intro v125 w36 ho hb hg hat; rw [← Ny124.out] at ho; have n0_ := Aside0.mk (Kd.R_after (ok := (fun _ => True)) (by (with_reducible repeat (first | apply Kd.R_alloc | apply Kd.R_drewN | apply Kd.R_drew)); exact HO120.out) hg hat); have n1_ := Aside0.mk (hb); have n2_ := Aside0.mk (ho); clear HO120; clear HB; clear HO123; have HO120 := n0_; have HB := n1_; have HO126 := n2_; clear n0_ n1_ n2_; clear ho hb hg hat))
                          have n0_ := Aside0.mk (Kd.R_drew HO120.out)
                          have n1_ := Aside0.mk (Kd.R_drew HO126.out)
                          have n2_ := Aside0.mk (below_drew1 HB.out)
                          clear HO120
                          clear HO126
                          clear HB
                          have HO120 := n0_
                          have HO126 := n1_
                          have HB := n2_
                          clear n0_ n1_ n2_
                          obtain ⟨Ao38, co38, eo38⟩ := Kd.R_slice HO126.out
                          (first | subst eo38 | (injection eo38 with f1_ f2_ f3_; have f4_ := f1_.symm; have f5_ := f3_.symm; clear f1_ f2_ f3_; subst f4_; subst f5_))
                          have p127 : 0 ≤ ((ji14) : Int) := of_decide_eq_true (by first | (with_reducible assumption) | assumption)
                          have q127 : (ji14) < (y124.length : Int) := of_decide_eq_true (by first | (with_reducible assumption) | assumption)
                          obtain ⟨ad127, e127, hx127_0⟩ := Kd.at_int (Kd.R_reads' HO126.out).2.2 (ji14) p127 q127
                          cases e127
                          replace p127 := eq_true p127
                          replace q127 := eq_true q127
                          have p20 : 0 ≤ ((ji14) : Int) := of_decide_eq_true (by first | (with_reducible assumption) | assumption)
                          have q20 : ((ji14) : Int) < ((y124.length : Int) : Int) := of_decide_eq_true (by first | (with_reducible assumption) | assumption)
                          obtain ⟨go20, co20, eo20, gb20, gl20, cl20, HG20⟩ := Kd.R_form HO126.out (by omega)
                          (first | cases eo20 | (injection eo20 with ea_ en_ ec_; (first | subst ea_ | (injection ea_ with ea_; subst ea_)); subst ec_; clear en_))
                          have GB20 := Aside0.mk gb20
                          have GG20 := Aside0.mk HG20
                          clear gb20 gl20 HG20
                          (first | simp only [add_plain] at hx127_0 | skip)
                          obtain ⟨hx20_0, hf20_0⟩ := Kd.R_celln 0 HO126.out ((ji14) : Int) p20 q20
                          replace p20 := eq_true p20
                          replace q20 := eq_true q20
                          have HP39 := Kd.R_putn HO126.out ((ji14) : Int) (Go.bits .xor .u8 (rd y124 (ji14)) (ji19))
                          rw [← Ny128.out] at HP39
                          have HQ39 := Aside0.mk HP39
                          clear HP39
                          refine start_ (n := 14) (S := fun w' => w'.cell? ⟨go20, ((ji14)).toNat, none⟩ = some (.int .u8 (rd y124 (ji14)))) (ds := [13]) #[false, false, false, false, false, false, false, false, false, false, false, false, false, false] (by kernel_rfl) rfl rfl (hx127_0) (fun hHeld => ?_); refine with_tabW watchkeeperlaw01_CrcBits.tab9 watchkeeperlaw01_CrcBits.bits9 (fun HT_ HW_ => ?_)
                          generalize w36.drew = w37 at HO120 HO126 HB GG20 HQ39 hf20_0 hx127_0 hx20_0 hHeld ⊢
                          refine pure_ (i := 0) (N := some 33) (v := ?_) (a' := ?_) #[true, false, false, false, false, false, false, false, false, false, false, false, false, false] rfl rfl (any_of HT_.out (by kernel_rfl)) (fun _ _ _ h => h) (Or.inl ⟨by rfl, ?_⟩) ?_ ?_
                          rotate_left
                          · intro w'
                            go_simp
                            with_reducible rfl
                          rotate_left
                          · simp only [Act.put, List.setIfInBounds_toArray, List.set_cons_zero, List.set_cons_succ, i64_w, i32_w]
                            rfl
                          refine pure_ (i := 1) (N := some 34) (v := ?_) (a' := ?_) #[true, true, false, false, false, false, false, false, false, false, false, false, false, false] rfl rfl (any_of HT_.out (by kernel_rfl)) (fun _ _ _ h => h) (Or.inl ⟨by rfl, ?_⟩) ?_ ?_
                          rotate_left
                          · intro w'
                            go_simp
                            with_reducible rfl
                          rotate_left
                          · simp only [Act.put, List.setIfInBounds_toArray, List.set_cons_zero, List.set_cons_succ, i64_w, i32_w]
                            rfl
                          refine pure_ (i := 2) (N := some 35) (v := ?_) (a' := ?_) #[true, true, true, false, false, false, false, false, false, false, false, false, false, false] rfl rfl (any_of HT_.out (by kernel_rfl)) (fun _ _ _ h => h) (Or.inl ⟨by rfl, ?_⟩) ?_ ?_
                          rotate_left
                          · intro w'
                            go_simp
                            with_reducible rfl
                          rotate_left
                          · simp only [Act.put, List.setIfInBounds_toArray, List.set_cons_zero, List.set_cons_succ, i64_w, i32_w]
                            rfl
                          refine pure_ (i := 3) (N := some 36) (v := ?_) (a' := ?_) #[true, true, true, true, false, false, false, false, false, false, false, false, false, false] rfl rfl (any_of HT_.out (by kernel_rfl)) (fun _ _ _ h => h) (Or.inl ⟨by rfl, ?_⟩) ?_ ?_
                          rotate_left
                          · intro w'
                            go_simp
                            with_reducible rfl
                          rotate_left
                          · simp only [Act.put, List.setIfInBounds_toArray, List.set_cons_zero, List.set_cons_succ, i64_w, i32_w]
                            rfl
                          refine pure_ (i := 4) (N := some 37) (v := ?_) (a' := ?_) #[true, true, true, true, true, false, false, false, false, false, false, false, false, false] rfl rfl (any_of HT_.out (by kernel_rfl)) (fun _ _ _ h => h) (Or.inl ⟨by rfl, ?_⟩) ?_ ?_
                          rotate_left
                          · intro w'
                            go_simp
                            with_reducible rfl
                          rotate_left
                          · simp only [Act.put, List.setIfInBounds_toArray, List.set_cons_zero, List.set_cons_succ, i64_w, i32_w]
                            rfl
                          refine pure_ (i := 5) (N := some 38) (v := ?_) (a' := ?_) #[true, true, true, true, true, true, false, false, false, false, false, false, false, false] rfl rfl (any_of HT_.out (by kernel_rfl)) (fun _ _ _ h => h) (Or.inl ⟨by rfl, ?_⟩) ?_ ?_
                          rotate_left
                          · intro w'
                            go_simp
                            with_reducible rfl
                          rotate_left
                          · simp only [Act.put, List.setIfInBounds_toArray, List.set_cons_zero, List.set_cons_succ, i64_w, i32_w]
                            rfl
                          refine pure_ (i := 6) (N := some 39) (v := ?_) (a' := ?_) #[true, true, true, true, true, true, true, false, false, false, false, false, false, false] rfl rfl (any_of HT_.out (by kernel_rfl)) (fun _ _ _ h => h) (Or.inl ⟨by rfl, ?_⟩) ?_ ?_
                          rotate_left
                          · intro w'
                            go_simp
                            with_reducible rfl
                          rotate_left
                          · simp only [Act.put, List.setIfInBounds_toArray, List.set_cons_zero, List.set_cons_succ, i64_w, i32_w]
                            rfl
                          refine pure_ (i := 8) (N := some 41) (v := ?_) (a' := ?_) #[true, true, true, true, true, true, true, false, true, false, false, false, false, false] rfl rfl (any_of HT_.out (by kernel_rfl)) (fun _ _ _ h => h) (Or.inl ⟨by rfl, ?_⟩) ?_ ?_
                          rotate_left
                          · intro w'
                            go_simp
                            with_reducible rfl
                          rotate_left
                          · simp only [Act.put, List.setIfInBounds_toArray, List.set_cons_zero, List.set_cons_succ, i64_w, i32_w]
                            rfl
                          refine pure_ (i := 9) (N := some 42) (v := ?_) (a' := ?_) #[true, true, true, true, true, true, true, false, true, true, false, false, false, false] rfl rfl (any_of HT_.out (by kernel_rfl)) (fun _ _ _ h => h) (Or.inl ⟨by rfl, ?_⟩) ?_ ?_
                          rotate_left
                          · intro w'
                            go_simp
                            with_reducible rfl
                          rotate_left
                          · simp only [Act.put, List.setIfInBounds_toArray, List.set_cons_zero, List.set_cons_succ, i64_w, i32_w]
                            rfl
                          refine pure_ (i := 10) (N := some 43) (v := ?_) (a' := ?_) #[true, true, true, true, true, true, true, false, true, true, true, false, false, false] rfl rfl (any_of HT_.out (by kernel_rfl)) (fun _ _ _ h => h) (Or.inl ⟨by rfl, ?_⟩) ?_ ?_
                          rotate_left
                          · intro w'
                            go_simp
                            with_reducible rfl
                          rotate_left
                          · simp only [Act.put, List.setIfInBounds_toArray, List.set_cons_zero, List.set_cons_succ, i64_w, i32_w]
                            rfl
                          refine take_ (i := 7) (N := some 40) (v := ?_) (a' := ?_) #[true, true, true, true, true, true, true, true, true, true, true, false, false, false] rfl rfl (take_ofW HT_.out HW_.out (by kernel_rfl)) (fun _ _ _ h => h) (Or.inl ⟨by rfl, ?_⟩) hHeld ?_ ?_
                          rotate_left
                          · intro w' s0
                            go_simp
                            with_reducible rfl
                          rotate_left
                          · simp only [Act.put, List.setIfInBounds_toArray, List.set_cons_zero, List.set_cons_succ, i64_w, i32_w]
                            rfl
                          refine pure_ (i := 11) (N := some 44) (v := ?_) (a' := ?_) #[true, true, true, true, true, true, true, true, true, true, true, true, false, false] rfl rfl (any_of HT_.out (by kernel_rfl)) (fun _ _ _ h => h) (Or.inl ⟨by rfl, ?_⟩) ?_ ?_
                          rotate_left
                          · intro w'
                            go_simp
                            with_reducible rfl
                          rotate_left
                          · simp only [Act.put, List.setIfInBounds_toArray, List.set_cons_zero, List.set_cons_succ, i64_w, i32_w]
                            rfl
                          refine pure_ (i := 12) (N := some 45) (v := ?_) (a' := ?_) #[true, true, true, true, true, true, true, true, true, true, true, true, true, false] rfl rfl (any_of HT_.out (by kernel_rfl)) (fun _ _ _ h => h) (Or.inl ⟨by rfl, ?_⟩) ?_ ?_
                          rotate_left
                          · intro w'
                            go_simp
                            with_reducible rfl
                          rotate_left
                          · simp only [Act.put, List.setIfInBounds_toArray, List.set_cons_zero, List.set_cons_succ, i64_w, i32_w]
                            rfl
                          refine last_ (i := 13) (N := none) #[true, true, true, true, true, true, true, true, true, true, true, true, true, true] rfl rfl (one_of HT_.out (by kernel_rfl)) (by decide) (fun K hK => ?_)
                          refine skip_ (w1 := ?_) (by rfl) rfl ?_ ?_
                          rotate_left
                          · go_simp
                            rfl
                          refine hK.out _ _ ?_
                          clear hK K
                          refine done_ (done_of HT_.out (by kernel_rfl)) ?_
                          try go_wp2
                          have n0_ : Aside0 (Kd.R (Kd.int .u8) 5 (w37.setCell ⟨go20, ((ji14) : Int).toNat, none⟩ (.int .u8 (Go.bits .xor .u8 (rd y124 (ji14)) (ji19)))) w.heap.size (fun k_ => some k_ ≠ (.slice (some ⟨go20, 0, none⟩) y124.length co38 : Value).ownBlock) (.slice Ao33 t118.length co33) t118) := ⟨by (with_reducible repeat (first | apply Kd.R_alloc | apply Kd.R_drewN | apply Kd.R_drew)); exact Kd.R_mono (Kd.R_far (p := ⟨go20, ((ji14) : Int).toNat, none⟩) (Kd.R_mono HO120.out (fun k_ hk => (⟨hk, fun e_ => hk.2 (by rw [e_]; rfl)⟩ : _ ∧ k_ ≠ go20))) (fun _ hk => hk.2) (.int .u8 (Go.bits .xor .u8 (rd y124 (ji14)) (ji19)))) (fun _ hk => hk.1.2)⟩
                          have n1_ : Aside0 (Kd.R (Kd.int .u8) 5 (w37.setCell ⟨go20, ((ji14) : Int).toNat, none⟩ (.int .u8 (Go.bits .xor .u8 (rd y124 (ji14)) (ji19)))) w.heap.size (fun k_ => some k_ ≠ (.slice Ao33 t118.length co33 : Value).ownBlock) (.slice (some ⟨go20, 0, none⟩) y124.length co38) y128) := ⟨by (with_reducible repeat (first | apply Kd.R_alloc | apply Kd.R_drewN | apply Kd.R_drew)); exact HQ39.out⟩
                          have n2_ : Aside0 (Below w.heap.size w (w37.setCell ⟨go20, ((ji14) : Int).toNat, none⟩ (.int .u8 (Go.bits .xor .u8 (rd y124 (ji14)) (ji19))))) := ⟨by repeat (first | (with_reducible first | exact HB.out | apply below_alloc | apply pw_below_drewN | apply below_drew1 | refine below_set ?_ GB20.out) | exact HB.out)⟩
                          (try clear HO120)
                          (try clear HO126)
                          (try clear HB)
                          generalize (w37.setCell ⟨go20, ((ji14) : Int).toNat, none⟩ (.int .u8 (Go.bits .xor .u8 (rd y124 (ji14)) (ji19)))) = w40 at n0_ n1_ n2_ ⊢
                          have HO120 := n0_
                          have HO126 := n1_
                          have HB := n2_
                          clear n0_ n1_ n2_
                          have n0_ := Aside0.mk (Kd.R_drew HO120.out)
                          have n1_ := Aside0.mk (Kd.R_drew HO126.out)
                          have n2_ := Aside0.mk (below_drew1 HB.out)
                          clear HO120
                          clear HO126
                          clear HB
                          have HO120 := n0_
                          have HO126 := n1_
                          have HB := n2_
                          clear n0_ n1_ n2_
                          have p129 : 0 ≤ ((ji22) : Int) := of_decide_eq_true (by first | (with_reducible assumption) | assumption)
                          have q129 : (ji22) < (y128.length : Int) := (by have h_ : ((ji22) : Int) < ((y124.length : Int) : Int) := of_decide_eq_true (by first | (with_reducible assumption) | assumption); first | (have e_ := (Kd.R_reads' HO126.out).1; omega) | simpa only [Ny128.out, List.length_set] using h_)
                          have ql129 : (((ji22) : Int) < ((y124.length : Int) : Int)) = True := eq_true (of_decide_eq_true (by first | (with_reducible assumption) | assumption))
                          obtain ⟨ad129, e129, hx129_0⟩ := Kd.at_int (Kd.R_reads' HO126.out).2.2 (ji22) p129 q129
                          obtain rfl : (⟨go20, 0, none⟩ : Addr) = ad129 := (by injection e129)
                          (first | simp only [add_plain] at hx129_0 | simp only [add_at] at hx129_0 | simp only [Addr.add, Nat.zero_add] at hx129_0 | skip)
                          replace p129 := eq_true p129
                          replace q129 := eq_true q129
                          have p28 : 0 ≤ ((ji22) : Int) := of_decide_eq_true (by first | (with_reducible assumption) | assumption)
                          have q28 : ((ji22) : Int) < ((y124.length : Int) : Int) := of_decide_eq_true (by first | (with_reducible assumption) | assumption)
                          obtain ⟨hx28_0, hf28_0⟩ := Kd.R_celln 0 HO126.out ((ji22) : Int) p28 q28
                          replace p28 := eq_true p28
                          replace q28 := eq_true q28
                          have HP42 := Kd.R_putn HO126.out ((ji22) : Int) (Go.bits .xor .u8 (rd y128 (ji22)) (ji27))
                          rw [← Ny130.out] at HP42
                          have HQ42 := Aside0.mk HP42
                          clear HP42
                          refine start_ (n := 14) (S := fun w' => w'.cell? ⟨go20, ((ji22)).toNat, none⟩ = some (.int .u8 (rd y128 (ji22)))) (ds := [13]) #[false, false, false, false, false, false, false, false, false, false, false, false, false, false] (by kernel_rfl) rfl rfl (hx129_0) (fun hHeld => ?_); refine with_tabW watchkeeperlaw01_CrcBits.tab12 watchkeeperlaw01_CrcBits.bits12 (fun HT_ HW_ => ?_)
                          generalize w40.drew = w41 at HO120 HO126 HB HQ39 HQ42 hf28_0 hx129_0 hx28_0 hHeld ⊢
                          refine pure_ (i := 0) (N := some 49) (v := ?_) (a' := ?_) #[true, false, false, false, false, false, false, false, false, false, false, false, false, false] rfl rfl (any_of HT_.out (by kernel_rfl)) (fun _ _ _ h => h) (Or.inl ⟨by rfl, ?_⟩) ?_ ?_
                          rotate_left
                          · intro w'
                            go_simp
                            with_reducible rfl
                          rotate_left
                          · simp only [Act.put, List.setIfInBounds_toArray, List.set_cons_zero, List.set_cons_succ, i64_w, i32_w]
                            rfl
                          refine pure_ (i := 1) (N := some 50) (v := ?_) (a' := ?_) #[true, true, false, false, false, false, false, false, false, false, false, false, false, false] rfl rfl (any_of HT_.out (by kernel_rfl)) (fun _ _ _ h => h) (Or.inl ⟨by rfl, ?_⟩) ?_ ?_
                          rotate_left
                          · intro w'
                            go_simp
                            with_reducible rfl
                          rotate_left
                          · simp only [Act.put, List.setIfInBounds_toArray, List.set_cons_zero, List.set_cons_succ, i64_w, i32_w]
                            rfl
                          refine pure_ (i := 2) (N := some 51) (v := ?_) (a' := ?_) #[true, true, true, false, false, false, false, false, false, false, false, false, false, false] rfl rfl (any_of HT_.out (by kernel_rfl)) (fun _ _ _ h => h) (Or.inl ⟨by rfl, ?_⟩) ?_ ?_
                          rotate_left
                          · intro w'
                            go_simp
                            with_reducible rfl
                          rotate_left
                          · simp only [Act.put, List.setIfInBounds_toArray, List.set_cons_zero, List.set_cons_succ, i64_w, i32_w]
                            rfl
                          refine pure_ (i := 3) (N := some 52) (v := ?_) (a' := ?_) #[true, true, true, true, false, false, false, false, false, false, false, false, false, false] rfl rfl (any_of HT_.out (by kernel_rfl)) (fun _ _ _ h => h) (Or.inl ⟨by rfl, ?_⟩) ?_ ?_
                          rotate_left
                          · intro w'
                            go_simp
                            with_reducible rfl
                          rotate_left
                          · simp only [Act.put, List.setIfInBounds_toArray, List.set_cons_zero, List.set_cons_succ, i64_w, i32_w]
                            rfl
                          refine pure_ (i := 4) (N := some 53) (v := ?_) (a' := ?_) #[true, true, true, true, true, false, false, false, false, false, false, false, false, false] rfl rfl (any_of HT_.out (by kernel_rfl)) (fun _ _ _ h => h) (Or.inl ⟨by rfl, ?_⟩) ?_ ?_
                          rotate_left
                          · intro w'
                            go_simp
                            with_reducible rfl
                          rotate_left
                          · simp only [Act.put, List.setIfInBounds_toArray, List.set_cons_zero, List.set_cons_succ, i64_w, i32_w]
                            rfl
                          refine pure_ (i := 5) (N := some 54) (v := ?_) (a' := ?_) #[true, true, true, true, true, true, false, false, false, false, false, false, false, false] rfl rfl (any_of HT_.out (by kernel_rfl)) (fun _ _ _ h => h) (Or.inl ⟨by rfl, ?_⟩) ?_ ?_
                          rotate_left
                          · intro w'
                            go_simp
                            with_reducible rfl
                          rotate_left
                          · simp only [Act.put, List.setIfInBounds_toArray, List.set_cons_zero, List.set_cons_succ, i64_w, i32_w]
                            rfl
                          refine pure_ (i := 6) (N := some 55) (v := ?_) (a' := ?_) #[true, true, true, true, true, true, true, false, false, false, false, false, false, false] rfl rfl (any_of HT_.out (by kernel_rfl)) (fun _ _ _ h => h) (Or.inl ⟨by rfl, ?_⟩) ?_ ?_
                          rotate_left
                          · intro w'
                            go_simp
                            with_reducible rfl
                          rotate_left
                          · simp only [Act.put, List.setIfInBounds_toArray, List.set_cons_zero, List.set_cons_succ, i64_w, i32_w]
                            rfl
                          refine pure_ (i := 8) (N := some 57) (v := ?_) (a' := ?_) #[true, true, true, true, true, true, true, false, true, false, false, false, false, false] rfl rfl (any_of HT_.out (by kernel_rfl)) (fun _ _ _ h => h) (Or.inl ⟨by rfl, ?_⟩) ?_ ?_
                          rotate_left
                          · intro w'
                            go_simp
                            with_reducible rfl
                          rotate_left
                          · simp only [Act.put, List.setIfInBounds_toArray, List.set_cons_zero, List.set_cons_succ, i64_w, i32_w]
                            rfl
                          refine pure_ (i := 9) (N := some 58) (v := ?_) (a' := ?_) #[true, true, true, true, true, true, true, false, true, true, false, false, false, false] rfl rfl (any_of HT_.out (by kernel_rfl)) (fun _ _ _ h => h) (Or.inl ⟨by rfl, ?_⟩) ?_ ?_
                          rotate_left
                          · intro w'
                            go_simp
                            with_reducible rfl
                          rotate_left
                          · simp only [Act.put, List.setIfInBounds_toArray, List.set_cons_zero, List.set_cons_succ, i64_w, i32_w]
                            rfl
                          refine pure_ (i := 10) (N := some 59) (v := ?_) (a' := ?_) #[true, true, true, true, true, true, true, false, true, true, true, false, false, false] rfl rfl (any_of HT_.out (by kernel_rfl)) (fun _ _ _ h => h) (Or.inl ⟨by rfl, ?_⟩) ?_ ?_
                          rotate_left
                          · intro w'
                            go_simp
                            with_reducible rfl
                          rotate_left
                          · simp only [Act.put, List.setIfInBounds_toArray, List.set_cons_zero, List.set_cons_succ, i64_w, i32_w]
                            rfl
                          refine take_ (i := 7) (N := some 56) (v := ?_) (a' := ?_) #[true, true, true, true, true, true, true, true, true, true, true, false, false, false] rfl rfl (take_ofW HT_.out HW_.out (by kernel_rfl)) (fun _ _ _ h => h) (Or.inl ⟨by rfl, ?_⟩) hHeld ?_ ?_
                          rotate_left
                          · intro w' s0
                            go_simp
                            with_reducible rfl
                          rotate_left
                          · simp only [Act.put, List.setIfInBounds_toArray, List.set_cons_zero, List.set_cons_succ, i64_w, i32_w]
                            rfl
                          refine pure_ (i := 11) (N := some 60) (v := ?_) (a' := ?_) #[true, true, true, true, true, true, true, true, true, true, true, true, false, false] rfl rfl (any_of HT_.out (by kernel_rfl)) (fun _ _ _ h => h) (Or.inl ⟨by rfl, ?_⟩) ?_ ?_
                          rotate_left
                          · intro w'
                            go_simp
                            with_reducible rfl
                          rotate_left
                          · simp only [Act.put, List.setIfInBounds_toArray, List.set_cons_zero, List.set_cons_succ, i64_w, i32_w]
                            rfl
                          refine pure_ (i := 12) (N := some 61) (v := ?_) (a' := ?_) #[true, true, true, true, true, true, true, true, true, true, true, true, true, false] rfl rfl (any_of HT_.out (by kernel_rfl)) (fun _ _ _ h => h) (Or.inl ⟨by rfl, ?_⟩) ?_ ?_
                          rotate_left
                          · intro w'
                            go_simp
                            with_reducible rfl
                          rotate_left
                          · simp only [Act.put, List.setIfInBounds_toArray, List.set_cons_zero, List.set_cons_succ, i64_w, i32_w]
                            rfl
                          refine last_ (i := 13) (N := none) #[true, true, true, true, true, true, true, true, true, true, true, true, true, true] rfl rfl (one_of HT_.out (by kernel_rfl)) (by decide) (fun K hK => ?_)
                          refine skip_ (w1 := ?_) (by rfl) rfl ?_ ?_
                          rotate_left
                          · go_simp
                            rfl
                          refine hK.out _ _ ?_
                          clear hK K
                          refine done_ (done_of HT_.out (by kernel_rfl)) ?_
                          try go_wp2_with (first | ((with_reducible refine gate_callee (f := 10) rfl ?_); refine goesL_ (some 64) rfl rfl Try.func10 (by kernel_rfl) rfl #[.slice (some ⟨go20, 0, none⟩) y130.length co38] rfl (by (try simp only [List.map_toArray, List.map_cons, List.map_nil]); first | done | (rw [show y130.length = y124.length from (Kd.R_reads' HQ42.out).1.symm] <;> rfl) | rfl | (simp only [List.length_drop, List.length_take]; rfl)) ?_; (with_reducible refine (crc_Open.calls _ _ y130 t131 t132 _ ?side1 ?side2 A29.out).mono ?_); (case side1 => refine (Kd.R_reads' (e := 5) (base := w.heap.size) (ok := fun k_ => some k_ ≠ (.slice Ao33 t118.length co33 : Value).ownBlock) (n := y124.length) (c := co38) ?_).2.2; exact (by (with_reducible repeat (first | apply Kd.R_alloc | apply Kd.R_drewN | apply Kd.R_drew)); exact HQ42.out)); (case side2 => rw [show y130.length = y124.length from (Kd.R_reads' HQ42.out).1.symm]; exact (Kd.R_reads' HO126.out).2.1); rintro e w43 ⟨v133, rfl, ho0, hb⟩; refine ⟨_, rfl, ?_⟩; have n0_ := Aside0.mk (Kd.R_elder' (by (with_reducible repeat (first | apply Kd.R_alloc | apply Kd.R_drewN | apply Kd.R_drew)); exact (Kd.R_mono (Kd.R_far (p := ⟨go20, ((ji22) : Int).toNat, none⟩) (Kd.R_mono HO120.out (fun k_ hk => (⟨hk, fun e_ => hk (by rw [e_]; rfl)⟩ : _ ∧ k_ ≠ go20))) (fun _ hk => hk.2) (.int .u8 (Go.bits .xor .u8 (rd y128 (ji22)) (ji27)))) (fun _ h_ => h_.1))) (Kd.R_base ho0) hb); have n1_ := Aside0.mk (Kd.R_elder' (by (with_reducible repeat (first | apply Kd.R_alloc | apply Kd.R_drewN | apply Kd.R_drew)); exact HQ42.out) (Kd.R_base ho0) hb); have n2_ := Aside0.mk (Kd.R_lower (Kd.R_new' (Kd.R_new' ho0 (Kd.R_lt (by (with_reducible repeat (first | apply Kd.R_alloc | apply Kd.R_drewN | apply Kd.R_drew)); exact (Kd.R_mono (Kd.R_far (p := ⟨go20, ((ji22) : Int).toNat, none⟩) (Kd.R_mono HO120.out (fun k_ hk => (⟨hk, fun e_ => hk (by rw [e_]; rfl)⟩ : _ ∧ k_ ≠ go20))) (fun _ hk => hk.2) (.int .u8 (Go.bits .xor .u8 (rd y128 (ji22)) (ji27)))) (fun _ h_ => h_.1))))) (Kd.R_lt (by (with_reducible repeat (first | apply Kd.R_alloc | apply Kd.R_drewN | apply Kd.R_drew)); exact HQ42.out))) (below_size (by repeat (first | (with_reducible first | exact HB.out | apply below_alloc | apply pw_below_drewN | apply below_drew1 | refine below_set ?_ GB20.out) | exact HB.out)))); have n3_ := Aside0.mk (below_step (by repeat (first | (with_reducible first | exact HB.out | apply below_alloc | apply pw_below_drewN | apply below_drew1 | refine below_set ?_ GB20.out) | exact HB.out)) hb); clear HO120; clear HO126; clear HB; have HO120 := n0_; have HO126 := n1_; have HO134 := n2_; have HB := n3_; clear n0_ n1_ n2_ n3_; (try clear hb); (try clear hb2); (try clear hgn); (try clear hk); (try clear hi); (try clear ho0)))
                          go_ret
                          exact ⟨by first | rfl | (simp [errW_none, errW_some] <;> rfl) | (simp only [← hji14, ← hji17, ← hji19, ← hji22, ← hji25, ← hji27]; first | rfl | (simp [errW_none, errW_some] <;> rfl)) | (simp [*, errW_none, errW_some] <;> rfl), by repeat (first | (with_reducible first | exact HB.out | apply below_alloc | apply pw_below_drewN | apply below_drew1) | exact HB.out)⟩
                        · replace c30 := Bool.eq_false_iff.mpr c30
                          subst c30
                          have H1 : (some false) = some r := by rw [if_neg (show ¬ (false = true) by decide)] at H; exact H
                          clear H
                          have H := H1
                          clear H1
                          obtain rfl := Option.some.inj H
                          go_enter Try.func5, Try.ntmps5
                          try go_wp2_with (first | ((with_reducible refine gate_callee (f := 9) rfl ?_); refine goesL_ (some 13) rfl rfl Try.func9 (by kernel_rfl) rfl #[] rfl (by (try simp only [List.map_toArray, List.map_cons, List.map_nil]); first | done | rfl | (simp only [List.length_drop, List.length_take]; rfl)) ?_; (with_reducible refine (watchkeeperlaw01_head.calls  false _ A4.out).mono ?_); rintro e w44 ⟨rfl, hb⟩; refine ⟨_, rfl, ?_⟩; have n0_ := Aside0.mk (below_step (by repeat (first | (with_reducible first | exact HB.out | apply below_alloc | apply pw_below_drewN | apply below_drew1) | exact HB.out)) hb); clear HB; have HB := n0_; clear n0_; (try clear hb); (try clear hb2); (try clear hgn); (try clear hk); (try clear hi)) | ((with_reducible refine gate_callee (f := 14) rfl ?_); refine goesL_ (some 19) rfl rfl Try.func14 (by kernel_rfl) rfl #[.slice A0 l0.length c0] rfl (by (try simp only [List.map_toArray, List.map_cons, List.map_nil]); first | done | rfl | (simp only [List.length_drop, List.length_take]; rfl)) ?_; (with_reducible refine (crc_Seal.calls _ _ l0 t118 _ ?side1 ?side2 A7.out).mono ?_); (case side1 => repeat (first | exact (Kd.C_below HR0.out HB.out) | (with_reducible refine Kd.C_alloc ?_ _) | (with_reducible refine Kd.C_drewN ?_ _) | (with_reducible refine Kd.C_drew ?_))); (case side2 => exact HC0.out); rintro e w45 ⟨v119, rfl, ho0, hb⟩; refine ⟨_, rfl, ?_⟩; have n0_ := Aside0.mk (Kd.R_lower ho0 (below_size (by repeat (first | (with_reducible first | exact HB.out | apply below_alloc | apply pw_below_drewN | apply below_drew1) | exact HB.out)))); have n1_ := Aside0.mk (below_step (by repeat (first | (with_reducible first | exact HB.out | apply below_alloc | apply pw_below_drewN | apply below_drew1) | exact HB.out)) hb); clear HB; have HO120 := n0_; have HB := n1_; clear n0_ n1_; (try clear hb); (try clear hb2); (try clear hgn); (try clear hk); (try clear hi); (try clear ho0); obtain ⟨Ao46, co46, eo46⟩ := Kd.R_slice HO120.out; subst eo46) | ((with_reducible refine gate_dst (N := 30) rfl ?_); refine Kd.R_lit (Kd.int .u8) _ 5 ?hg (N := 30) ?hd (xs := ([] : List Int)) (inner := []) (ok := fun _ => True) (okp := fun _ => True) ?hr ?hp (fun _ hk => hk) trivial (Below.refl _ _) (Nat.le_refl _) (by simp) ?_; (case hd => rfl); (case hg => rfl); (case hr => first | (go_simp; done) | (go_simp; rfl)); (case hp => exact (Reps.none _ _)); intro v122 w47 ho48 hb hg_ hnew_; clear hg_ hnew_; (first | rw [← Ny121.out] at ho48 | (simp only [Int.reduceToNat] at ho48; rw [← Ny121.out] at ho48)); have n0_ := Aside0.mk (Kd.R_elder' (by (with_reducible repeat (first | apply Kd.R_alloc | apply Kd.R_drewN | apply Kd.R_drew)); exact HO120.out) (Kd.R_base ho48) hb); have n1_ := Aside0.mk (Kd.R_lower (Kd.R_new' ho48 (Kd.R_lt (by (with_reducible repeat (first | apply Kd.R_alloc | apply Kd.R_drewN | apply Kd.R_drew)); exact HO120.out))) (below_size (by repeat (first | (with_reducible first | exact HB.out | apply below_alloc | apply pw_below_drewN | apply below_drew1) | exact HB.out)))); have n2_ := Aside0.mk (below_step (by repeat (first | (with_reducible first | exact HB.out | apply below_alloc | apply pw_below_drewN | apply below_drew1) | exact HB.out)) hb); clear HO120; clear HB; have HO120 := n0_; have HO123 := n1_; have HB := n2_; clear n0_ n1_ n2_; clear hb ho48) | ((with_reducible refine gate_builtin (b := .append) (xs := #[.tmp 30, .tmp 31]) rfl ?_); at_builtin; refine Kd.R_append_rows (Kd.int .u8) (w0 := w) w.heap.size rfl (.tmp 30) (.tmp 31) 22 5 (.int .u8 0) 1 rfl Try.underlying22 info5 rfl (by decide) (by omega) v122 y121 t118 _ _ _ (fun k_ => some k_ ≠ (.slice Ao46 t118.length co46 : Value).ownBlock) (fun _ => False) rfl rfl ?aO ?aR (fun _ _ h => h) (fun _ h => h.elim) ?aF ?aB ?aS ?aL ?_; (case aR => repeat (first | exact (Kd.R_reads' HO120.out).2.2 | (with_reducible refine Kd.C_alloc ?_ _) | (with_reducible refine Kd.C_drewN ?_ _) | (with_reducible refine Kd.C_drew ?_))); (case aB => exact (by repeat (first | (with_reducible first | exact HB.out | apply below_alloc | apply pw_below_drewN | apply below_drew1) | exact HB.out))); (case aF => exact (fun k_ hk => Kd.fresh' (Kd.R_lt (by (with_reducible repeat (first | apply Kd.R_alloc | apply Kd.R_drewN | apply Kd.R_drew)); exact HO120.out)) k_ hk)); (case aO => exact (by (with_reducible repeat (first | apply Kd.R_alloc | apply Kd.R_drewN | apply Kd.R_drew)); exact Kd.R_mono HO123.out (fun _ hk => hk.2))); (case aS => exact (below_size (by repeat (first | (with_reducible first | exact HB.out | apply below_alloc | apply pw_below_drewN | apply below_drew1) | exact HB.out)))); (case aL => have := LMc13.out; omega); intro v125 w49 ho hb hg hat; rw [← Ny124.out] at ho; have n0_ := Aside0.mk (Kd.R_after (ok := (fun _ => True)) (by (with_reducible repeat (first | apply Kd.R_alloc | apply Kd.R_drewN | apply Kd.R_drew)); exact HO120.out) hg hat); have n1_ := Aside0.mk (hb); have n2_ := Aside0.mk (ho); clear HO120; clear HB; clear HO123; have HO120 := n0_; have HB := n1_; have HO126 := n2_; clear n0_ n1_ n2_; clear ho hb hg hat))
                          have n0_ := Aside0.mk (Kd.R_drew HO120.out)
                          have n1_ := Aside0.mk (Kd.R_drew HO126.out)
                          have n2_ := Aside0.mk (below_drew1 HB.out)
                          clear HO120
                          clear HO126
                          clear HB
                          have HO120 := n0_
                          have HO126 := n1_
                          have HB := n2_
                          clear n0_ n1_ n2_
                          obtain ⟨Ao51, co51, eo51⟩ := Kd.R_slice HO126.out
                          (first | subst eo51 | (injection eo51 with f1_ f2_ f3_; have f4_ := f1_.symm; have f5_ := f3_.symm; clear f1_ f2_ f3_; subst f4_; subst f5_))
                          have p127 : 0 ≤ ((ji14) : Int) := of_decide_eq_true (by first | (with_reducible assumption) | assumption)
                          have q127 : (ji14) < (y124.length : Int) := of_decide_eq_true (by first | (with_reducible assumption) | assumption)
                          obtain ⟨ad127, e127, hx127_0⟩ := Kd.at_int (Kd.R_reads' HO126.out).2.2 (ji14) p127 q127
                          cases e127
                          replace p127 := eq_true p127
                          replace q127 := eq_true q127
                          have p20 : 0 ≤ ((ji14) : Int) := of_decide_eq_true (by first | (with_reducible assumption) | assumption)
                          have q20 : ((ji14) : Int) < ((y124.length : Int) : Int) := of_decide_eq_true (by first | (with_reducible assumption) | assumption)
                          obtain ⟨go20, co20, eo20, gb20, gl20, cl20, HG20⟩ := Kd.R_form HO126.out (by omega)
                          (first | cases eo20 | (injection eo20 with ea_ en_ ec_; (first | subst ea_ | (injection ea_ with ea_; subst ea_)); subst ec_; clear en_))
                          have GB20 := Aside0.mk gb20
                          have GG20 := Aside0.mk HG20
                          clear gb20 gl20 HG20
                          (first | simp only [add_plain] at hx127_0 | skip)
                          obtain ⟨hx20_0, hf20_0⟩ := Kd.R_celln 0 HO126.out ((ji14) : Int) p20 q20
                          replace p20 := eq_true p20
                          replace q20 := eq_true q20
                          have HP52 := Kd.R_putn HO126.out ((ji14) : Int) (Go.bits .xor .u8 (rd y124 (ji14)) (ji19))
                          rw [← Ny128.out] at HP52
                          have HQ52 := Aside0.mk HP52
                          clear HP52
                          refine start_ (n := 14) (S := fun w' => w'.cell? ⟨go20, ((ji14)).toNat, none⟩ = some (.int .u8 (rd y124 (ji14)))) (ds := [13]) #[false, false, false, false, false, false, false, false, false, false, false, false, false, false] (by kernel_rfl) rfl rfl (hx127_0) (fun hHeld => ?_); refine with_tabW watchkeeperlaw01_CrcBits.tab9 watchkeeperlaw01_CrcBits.bits9 (fun HT_ HW_ => ?_)
                          generalize w49.drew = w50 at HO120 HO126 HB GG20 HQ52 hf20_0 hx127_0 hx20_0 hHeld ⊢
                          refine pure_ (i := 0) (N := some 33) (v := ?_) (a' := ?_) #[true, false, false, false, false, false, false, false, false, false, false, false, false, false] rfl rfl (any_of HT_.out (by kernel_rfl)) (fun _ _ _ h => h) (Or.inl ⟨by rfl, ?_⟩) ?_ ?_
                          rotate_left
                          · intro w'
                            go_simp
                            with_reducible rfl
                          rotate_left
                          · simp only [Act.put, List.setIfInBounds_toArray, List.set_cons_zero, List.set_cons_succ, i64_w, i32_w]
                            rfl
                          refine pure_ (i := 1) (N := some 34) (v := ?_) (a' := ?_) #[true, true, false, false, false, false, false, false, false, false, false, false, false, false] rfl rfl (any_of HT_.out (by kernel_rfl)) (fun _ _ _ h => h) (Or.inl ⟨by rfl, ?_⟩) ?_ ?_
                          rotate_left
                          · intro w'
                            go_simp
                            with_reducible rfl
                          rotate_left
                          · simp only [Act.put, List.setIfInBounds_toArray, List.set_cons_zero, List.set_cons_succ, i64_w, i32_w]
                            rfl
                          refine pure_ (i := 2) (N := some 35) (v := ?_) (a' := ?_) #[true, true, true, false, false, false, false, false, false, false, false, false, false, false] rfl rfl (any_of HT_.out (by kernel_rfl)) (fun _ _ _ h => h) (Or.inl ⟨by rfl, ?_⟩) ?_ ?_
                          rotate_left
                          · intro w'
                            go_simp
                            with_reducible rfl
                          rotate_left
                          · simp only [Act.put, List.setIfInBounds_toArray, List.set_cons_zero, List.set_cons_succ, i64_w, i32_w]
                            rfl
                          refine pure_ (i := 3) (N := some 36) (v := ?_) (a' := ?_) #[true, true, true, true, false, false, false, false, false, false, false, false, false, false] rfl rfl (any_of HT_.out (by kernel_rfl)) (fun _ _ _ h => h) (Or.inl ⟨by rfl, ?_⟩) ?_ ?_
                          rotate_left
                          · intro w'
                            go_simp
                            with_reducible rfl
                          rotate_left
                          · simp only [Act.put, List.setIfInBounds_toArray, List.set_cons_zero, List.set_cons_succ, i64_w, i32_w]
                            rfl
                          refine pure_ (i := 4) (N := some 37) (v := ?_) (a' := ?_) #[true, true, true, true, true, false, false, false, false, false, false, false, false, false] rfl rfl (any_of HT_.out (by kernel_rfl)) (fun _ _ _ h => h) (Or.inl ⟨by rfl, ?_⟩) ?_ ?_
                          rotate_left
                          · intro w'
                            go_simp
                            with_reducible rfl
                          rotate_left
                          · simp only [Act.put, List.setIfInBounds_toArray, List.set_cons_zero, List.set_cons_succ, i64_w, i32_w]
                            rfl
                          refine pure_ (i := 5) (N := some 38) (v := ?_) (a' := ?_) #[true, true, true, true, true, true, false, false, false, false, false, false, false, false] rfl rfl (any_of HT_.out (by kernel_rfl)) (fun _ _ _ h => h) (Or.inl ⟨by rfl, ?_⟩) ?_ ?_
                          rotate_left
                          · intro w'
                            go_simp
                            with_reducible rfl
                          rotate_left
                          · simp only [Act.put, List.setIfInBounds_toArray, List.set_cons_zero, List.set_cons_succ, i64_w, i32_w]
                            rfl
                          refine pure_ (i := 6) (N := some 39) (v := ?_) (a' := ?_) #[true, true, true, true, true, true, true, false, false, false, false, false, false, false] rfl rfl (any_of HT_.out (by kernel_rfl)) (fun _ _ _ h => h) (Or.inl ⟨by rfl, ?_⟩) ?_ ?_
                          rotate_left
                          · intro w'
                            go_simp
                            with_reducible rfl
                          rotate_left
                          · simp only [Act.put, List.setIfInBounds_toArray, List.set_cons_zero, List.set_cons_succ, i64_w, i32_w]
                            rfl
                          refine pure_ (i := 8) (N := some 41) (v := ?_) (a' := ?_) #[true, true, true, true, true, true, true, false, true, false, false, false, false, false] rfl rfl (any_of HT_.out (by kernel_rfl)) (fun _ _ _ h => h) (Or.inl ⟨by rfl, ?_⟩) ?_ ?_
                          rotate_left
                          · intro w'
                            go_simp
                            with_reducible rfl
                          rotate_left
                          · simp only [Act.put, List.setIfInBounds_toArray, List.set_cons_zero, List.set_cons_succ, i64_w, i32_w]
                            rfl
                          refine pure_ (i := 9) (N := some 42) (v := ?_) (a' := ?_) #[true, true, true, true, true, true, true, false, true, true, false, false, false, false] rfl rfl (any_of HT_.out (by kernel_rfl)) (fun _ _ _ h => h) (Or.inl ⟨by rfl, ?_⟩) ?_ ?_
                          rotate_left
                          · intro w'
                            go_simp
                            with_reducible rfl
                          rotate_left
                          · simp only [Act.put, List.setIfInBounds_toArray, List.set_cons_zero, List.set_cons_succ, i64_w, i32_w]
                            rfl
                          refine pure_ (i := 10) (N := some 43) (v := ?_) (a' := ?_) #[true, true, true, true, true, true, true, false, true, true, true, false, false, false] rfl rfl (any_of HT_.out (by kernel_rfl)) (fun _ _ _ h => h) (Or.inl ⟨by rfl, ?_⟩) ?_ ?_
                          rotate_left
                          · intro w'
                            go_simp
                            with_reducible rfl
                          rotate_left
                          · simp only [Act.put, List.setIfInBounds_toArray, List.set_cons_zero, List.set_cons_succ, i64_w, i32_w]
                            rfl
                          refine take_ (i := 7) (N := some 40) (v := ?_) (a' := ?_) #[true, true, true, true, true, true, true, true, true, true, true, false, false, false] rfl rfl (take_ofW HT_.out HW_.out (by kernel_rfl)) (fun _ _ _ h => h) (Or.inl ⟨by rfl, ?_⟩) hHeld ?_ ?_
                          rotate_left
                          · intro w' s0
                            go_simp
                            with_reducible rfl
                          rotate_left
                          · simp only [Act.put, List.setIfInBounds_toArray, List.set_cons_zero, List.set_cons_succ, i64_w, i32_w]
                            rfl
                          refine pure_ (i := 11) (N := some 44) (v := ?_) (a' := ?_) #[true, true, true, true, true, true, true, true, true, true, true, true, false, false] rfl rfl (any_of HT_.out (by kernel_rfl)) (fun _ _ _ h => h) (Or.inl ⟨by rfl, ?_⟩) ?_ ?_
                          rotate_left
                          · intro w'
                            go_simp
                            with_reducible rfl
                          rotate_left
                          · simp only [Act.put, List.setIfInBounds_toArray, List.set_cons_zero, List.set_cons_succ, i64_w, i32_w]
                            rfl
                          refine pure_ (i := 12) (N := some 45) (v := ?_) (a' := ?_) #[true, true, true, true, true, true, true, true, true, true, true, true, true, false] rfl rfl (any_of HT_.out (by kernel_rfl)) (fun _ _ _ h => h) (Or.inl ⟨by rfl, ?_⟩) ?_ ?_
                          rotate_left
                          · intro w'
                            go_simp
                            with_reducible rfl
                          rotate_left
                          · simp only [Act.put, List.setIfInBounds_toArray, List.set_cons_zero, List.set_cons_succ, i64_w, i32_w]
                            rfl
                          refine last_ (i := 13) (N := none) #[true, true, true, true, true, true, true, true, true, true, true, true, true, true] rfl rfl (one_of HT_.out (by kernel_rfl)) (by decide) (fun K hK => ?_)
                          refine skip_ (w1 := ?_) (by rfl) rfl ?_ ?_
                          rotate_left
                          · go_simp
                            rfl
                          refine hK.out _ _ ?_
                          clear hK K
                          refine done_ (done_of HT_.out (by kernel_rfl)) ?_
                          try go_wp2
                          have n0_ : Aside0 (Kd.R (Kd.int .u8) 5 (w50.setCell ⟨go20, ((ji14) : Int).toNat, none⟩ (.int .u8 (Go.bits .xor .u8 (rd y124 (ji14)) (ji19)))) w.heap.size (fun k_ => some k_ ≠ (.slice (some ⟨go20, 0, none⟩) y124.length co51 : Value).ownBlock) (.slice Ao46 t118.length co46) t118) := ⟨by (with_reducible repeat (first | apply Kd.R_alloc | apply Kd.R_drewN | apply Kd.R_drew)); exact Kd.R_mono (Kd.R_far (p := ⟨go20, ((ji14) : Int).toNat, none⟩) (Kd.R_mono HO120.out (fun k_ hk => (⟨hk, fun e_ => hk.2 (by rw [e_]; rfl)⟩ : _ ∧ k_ ≠ go20))) (fun _ hk => hk.2) (.int .u8 (Go.bits .xor .u8 (rd y124 (ji14)) (ji19)))) (fun _ hk => hk.1.2)⟩
                          have n1_ : Aside0 (Kd.R (Kd.int .u8) 5 (w50.setCell ⟨go20, ((ji14) : Int).toNat, none⟩ (.int .u8 (Go.bits .xor .u8 (rd y124 (ji14)) (ji19)))) w.heap.size (fun k_ => some k_ ≠ (.slice Ao46 t118.length co46 : Value).ownBlock) (.slice (some ⟨go20, 0, none⟩) y124.length co51) y128) := ⟨by (with_reducible repeat (first | apply Kd.R_alloc | apply Kd.R_drewN | apply Kd.R_drew)); exact HQ52.out⟩
                          have n2_ : Aside0 (Below w.heap.size w (w50.setCell ⟨go20, ((ji14) : Int).toNat, none⟩ (.int .u8 (Go.bits .xor .u8 (rd y124 (ji14)) (ji19))))) := ⟨by repeat (first | (with_reducible first | exact HB.out | apply below_alloc | apply pw_below_drewN | apply below_drew1 | refine below_set ?_ GB20.out) | exact HB.out)⟩
                          (try clear HO120)
                          (try clear HO126)
                          (try clear HB)
                          generalize (w50.setCell ⟨go20, ((ji14) : Int).toNat, none⟩ (.int .u8 (Go.bits .xor .u8 (rd y124 (ji14)) (ji19)))) = w53 at n0_ n1_ n2_ ⊢
                          have HO120 := n0_
                          have HO126 := n1_
                          have HB := n2_
                          clear n0_ n1_ n2_
                          have n0_ := Aside0.mk (Kd.R_drew HO120.out)
                          have n1_ := Aside0.mk (Kd.R_drew HO126.out)
                          have n2_ := Aside0.mk (below_drew1 HB.out)
                          clear HO120
                          clear HO126
                          clear HB
                          have HO120 := n0_
                          have HO126 := n1_
                          have HB := n2_
                          clear n0_ n1_ n2_
                          have p129 : 0 ≤ ((ji22) : Int) := of_decide_eq_true (by first | (with_reducible assumption) | assumption)
                          have q129 : (ji22) < (y128.length : Int) := (by have h_ : ((ji22) : Int) < ((y124.length : Int) : Int) := of_decide_eq_true (by first | (with_reducible assumption) | assumption); first | (have e_ := (Kd.R_reads' HO126.out).1; omega) | simpa only [Ny128.out, List.length_set] using h_)
                          have ql129 : (((ji22) : Int) < ((y124.length : Int) : Int)) = True := eq_true (of_decide_eq_true (by first | (with_reducible assumption) | assumption))
                          obtain ⟨ad129, e129, hx129_0⟩ := Kd.at_int (Kd.R_reads' HO126.out).2.2 (ji22) p129 q129
                          obtain rfl : (⟨go20, 0, none⟩ : Addr) = ad129 := (by injection e129)
                          (first | simp only [add_plain] at hx129_0 | simp only [add_at] at hx129_0 | simp only [Addr.add, Nat.zero_add] at hx129_0 | skip)
                          replace p129 := eq_true p129
                          replace q129 := eq_true q129
                          have p28 : 0 ≤ ((ji22) : Int) := of_decide_eq_true (by first | (with_reducible assumption) | assumption)
                          have q28 : ((ji22) : Int) < ((y124.length : Int) : Int) := of_decide_eq_true (by first | (with_reducible assumption) | assumption)
                          obtain ⟨hx28_0, hf28_0⟩ := Kd.R_celln 0 HO126.out ((ji22) : Int) p28 q28
                          replace p28 := eq_true p28
                          replace q28 := eq_true q28
                          have HP55 := Kd.R_putn HO126.out ((ji22) : Int) (Go.bits .xor .u8 (rd y128 (ji22)) (ji27))
                          rw [← Ny130.out] at HP55
                          have HQ55 := Aside0.mk HP55
                          clear HP55
                          refine start_ (n := 14) (S := fun w' => w'.cell? ⟨go20, ((ji22)).toNat, none⟩ = some (.int .u8 (rd y128 (ji22)))) (ds := [13]) #[false, false, false, false, false, false, false, false, false, false, false, false, false, false] (by kernel_rfl) rfl rfl (hx129_0) (fun hHeld => ?_); refine with_tabW watchkeeperlaw01_CrcBits.tab12 watchkeeperlaw01_CrcBits.bits12 (fun HT_ HW_ => ?_)
                          generalize w53.drew = w54 at HO120 HO126 HB HQ52 HQ55 hf28_0 hx129_0 hx28_0 hHeld ⊢
                          refine pure_ (i := 0) (N := some 49) (v := ?_) (a' := ?_) #[true, false, false, false, false, false, false, false, false, false, false, false, false, false] rfl rfl (any_of HT_.out (by kernel_rfl)) (fun _ _ _ h => h) (Or.inl ⟨by rfl, ?_⟩) ?_ ?_
                          rotate_left
                          · intro w'
                            go_simp
                            with_reducible rfl
                          rotate_left
                          · simp only [Act.put, List.setIfInBounds_toArray, List.set_cons_zero, List.set_cons_succ, i64_w, i32_w]
                            rfl
                          refine pure_ (i := 1) (N := some 50) (v := ?_) (a' := ?_) #[true, true, false, false, false, false, false, false, false, false, false, false, false, false] rfl rfl (any_of HT_.out (by kernel_rfl)) (fun _ _ _ h => h) (Or.inl ⟨by rfl, ?_⟩) ?_ ?_
                          rotate_left
                          · intro w'
                            go_simp
                            with_reducible rfl
                          rotate_left
                          · simp only [Act.put, List.setIfInBounds_toArray, List.set_cons_zero, List.set_cons_succ, i64_w, i32_w]
                            rfl
                          refine pure_ (i := 2) (N := some 51) (v := ?_) (a' := ?_) #[true, true, true, false, false, false, false, false, false, false, false, false, false, false] rfl rfl (any_of HT_.out (by kernel_rfl)) (fun _ _ _ h => h) (Or.inl ⟨by rfl, ?_⟩) ?_ ?_
                          rotate_left
                          · intro w'
                            go_simp
                            with_reducible rfl
                          rotate_left
                          · simp only [Act.put, List.setIfInBounds_toArray, List.set_cons_zero, List.set_cons_succ, i64_w, i32_w]
                            rfl
                          refine pure_ (i := 3) (N := some 52) (v := ?_) (a' := ?_) #[true, true, true, true, false, false, false, false, false, false, false, false, false, false] rfl rfl (any_of HT_.out (by kernel_rfl)) (fun _ _ _ h => h) (Or.inl ⟨by rfl, ?_⟩) ?_ ?_
                          rotate_left
                          · intro w'
                            go_simp
                            with_reducible rfl
                          rotate_left
                          · simp only [Act.put, List.setIfInBounds_toArray, List.set_cons_zero, List.set_cons_succ, i64_w, i32_w]
                            rfl
                          refine pure_ (i := 4) (N := some 53) (v := ?_) (a' := ?_) #[true, true, true, true, true, false, false, false, false, false, false, false, false, false] rfl rfl (any_of HT_.out (by kernel_rfl)) (fun _ _ _ h => h) (Or.inl ⟨by rfl, ?_⟩) ?_ ?_
                          rotate_left
                          · intro w'
                            go_simp
                            with_reducible rfl
                          rotate_left
                          · simp only [Act.put, List.setIfInBounds_toArray, List.set_cons_zero, List.set_cons_succ, i64_w, i32_w]
                            rfl
                          refine pure_ (i := 5) (N := some 54) (v := ?_) (a' := ?_) #[true, true, true, true, true, true, false, false, false, false, false, false, false, false] rfl rfl (any_of HT_.out (by kernel_rfl)) (fun _ _ _ h => h) (Or.inl ⟨by rfl, ?_⟩) ?_ ?_
                          rotate_left
                          · intro w'
                            go_simp
                            with_reducible rfl
                          rotate_left
                          · simp only [Act.put, List.setIfInBounds_toArray, List.set_cons_zero, List.set_cons_succ, i64_w, i32_w]
                            rfl
                          refine pure_ (i := 6) (N := some 55) (v := ?_) (a' := ?_) #[true, true, true, true, true, true, true, false, false, false, false, false, false, false] rfl rfl (any_of HT_.out (by kernel_rfl)) (fun _ _ _ h => h) (Or.inl ⟨by rfl, ?_⟩) ?_ ?_
                          rotate_left
                          · intro w'
                            go_simp
                            with_reducible rfl
                          rotate_left
                          · simp only [Act.put, List.setIfInBounds_toArray, List.set_cons_zero, List.set_cons_succ, i64_w, i32_w]
                            rfl
                          refine pure_ (i := 8) (N := some 57) (v := ?_) (a' := ?_) #[true, true, true, true, true, true, true, false, true, false, false, false, false, false] rfl rfl (any_of HT_.out (by kernel_rfl)) (fun _ _ _ h => h) (Or.inl ⟨by rfl, ?_⟩) ?_ ?_
                          rotate_left
                          · intro w'
                            go_simp
                            with_reducible rfl
                          rotate_left
                          · simp only [Act.put, List.setIfInBounds_toArray, List.set_cons_zero, List.set_cons_succ, i64_w, i32_w]
                            rfl
                          refine pure_ (i := 9) (N := some 58) (v := ?_) (a' := ?_) #[true, true, true, true, true, true, true, false, true, true, false, false, false, false] rfl rfl (any_of HT_.out (by kernel_rfl)) (fun _ _ _ h => h) (Or.inl ⟨by rfl, ?_⟩) ?_ ?_
                          rotate_left
                          · intro w'
                            go_simp
                            with_reducible rfl
                          rotate_left
                          · simp only [Act.put, List.setIfInBounds_toArray, List.set_cons_zero, List.set_cons_succ, i64_w, i32_w]
                            rfl
                          refine pure_ (i := 10) (N := some 59) (v := ?_) (a' := ?_) #[true, true, true, true, true, true, true, false, true, true, true, false, false, false] rfl rfl (any_of HT_.out (by kernel_rfl)) (fun _ _ _ h => h) (Or.inl ⟨by rfl, ?_⟩) ?_ ?_
                          rotate_left
                          · intro w'
                            go_simp
                            with_reducible rfl
                          rotate_left
                          · simp only [Act.put, List.setIfInBounds_toArray, List.set_cons_zero, List.set_cons_succ, i64_w, i32_w]
                            rfl
                          refine take_ (i := 7) (N := some 56) (v := ?_) (a' := ?_) #[true, true, true, true, true, true, true, true, true, true, true, false, false, false] rfl rfl (take_ofW HT_.out HW_.out (by kernel_rfl)) (fun _ _ _ h => h) (Or.inl ⟨by rfl, ?_⟩) hHeld ?_ ?_
                          rotate_left
                          · intro w' s0
                            go_simp
                            with_reducible rfl
                          rotate_left
                          · simp only [Act.put, List.setIfInBounds_toArray, List.set_cons_zero, List.set_cons_succ, i64_w, i32_w]
                            rfl
                          refine pure_ (i := 11) (N := some 60) (v := ?_) (a' := ?_) #[true, true, true, true, true, true, true, true, true, true, true, true, false, false] rfl rfl (any_of HT_.out (by kernel_rfl)) (fun _ _ _ h => h) (Or.inl ⟨by rfl, ?_⟩) ?_ ?_
                          rotate_left
                          · intro w'
                            go_simp
                            with_reducible rfl
                          rotate_left
                          · simp only [Act.put, List.setIfInBounds_toArray, List.set_cons_zero, List.set_cons_succ, i64_w, i32_w]
                            rfl
                          refine pure_ (i := 12) (N := some 61) (v := ?_) (a' := ?_) #[true, true, true, true, true, true, true, true, true, true, true, true, true, false] rfl rfl (any_of HT_.out (by kernel_rfl)) (fun _ _ _ h => h) (Or.inl ⟨by rfl, ?_⟩) ?_ ?_
                          rotate_left
                          · intro w'
                            go_simp
                            with_reducible rfl
                          rotate_left
                          · simp only [Act.put, List.setIfInBounds_toArray, List.set_cons_zero, List.set_cons_succ, i64_w, i32_w]
                            rfl
                          refine last_ (i := 13) (N := none) #[true, true, true, true, true, true, true, true, true, true, true, true, true, true] rfl rfl (one_of HT_.out (by kernel_rfl)) (by decide) (fun K hK => ?_)
                          refine skip_ (w1 := ?_) (by rfl) rfl ?_ ?_
                          rotate_left
                          · go_simp
                            rfl
                          refine hK.out _ _ ?_
                          clear hK K
                          refine done_ (done_of HT_.out (by kernel_rfl)) ?_
                          try go_wp2_with (first | ((with_reducible refine gate_callee (f := 10) rfl ?_); refine goesL_ (some 64) rfl rfl Try.func10 (by kernel_rfl) rfl #[.slice (some ⟨go20, 0, none⟩) y130.length co51] rfl (by (try simp only [List.map_toArray, List.map_cons, List.map_nil]); first | done | (rw [show y130.length = y124.length from (Kd.R_reads' HQ55.out).1.symm] <;> rfl) | rfl | (simp only [List.length_drop, List.length_take]; rfl)) ?_; (with_reducible refine (crc_Open.calls _ _ y130 t131 t132 _ ?side1 ?side2 A29.out).mono ?_); (case side1 => refine (Kd.R_reads' (e := 5) (base := w.heap.size) (ok := fun k_ => some k_ ≠ (.slice Ao46 t118.length co46 : Value).ownBlock) (n := y124.length) (c := co51) ?_).2.2; exact (by (with_reducible repeat (first | apply Kd.R_alloc | apply Kd.R_drewN | apply Kd.R_drew)); exact HQ55.out)); (case side2 => rw [show y130.length = y124.length from (Kd.R_reads' HQ55.out).1.symm]; exact (Kd.R_reads' HO126.out).2.1); rintro e w56 ⟨v133, rfl, ho0, hb⟩; refine ⟨_, rfl, ?_⟩; have n0_ := Aside0.mk (Kd.R_elder' (by (with_reducible repeat (first | apply Kd.R_alloc | apply Kd.R_drewN | apply Kd.R_drew)); exact (Kd.R_mono (Kd.R_far (p := ⟨go20, ((ji22) : Int).toNat, none⟩) (Kd.R_mono HO120.out (fun k_ hk => (⟨hk, fun e_ => hk (by rw [e_]; rfl)⟩ : _ ∧ k_ ≠ go20))) (fun _ hk => hk.2) (.int .u8 (Go.bits .xor .u8 (rd y128 (ji22)) (ji27)))) (fun _ h_ => h_.1))) (Kd.R_base ho0) hb); have n1_ := Aside0.mk (Kd.R_elder' (by (with_reducible repeat (first | apply Kd.R_alloc | apply Kd.R_drewN | apply Kd.R_drew)); exact HQ55.out) (Kd.R_base ho0) hb); have n2_ := Aside0.mk (Kd.R_lower (Kd.R_new' (Kd.R_new' ho0 (Kd.R_lt (by (with_reducible repeat (first | apply Kd.R_alloc | apply Kd.R_drewN | apply Kd.R_drew)); exact (Kd.R_mono (Kd.R_far (p := ⟨go20, ((ji22) : Int).toNat, none⟩) (Kd.R_mono HO120.out (fun k_ hk => (⟨hk, fun e_ => hk (by rw [e_]; rfl)⟩ : _ ∧ k_ ≠ go20))) (fun _ hk => hk.2) (.int .u8 (Go.bits .xor .u8 (rd y128 (ji22)) (ji27)))) (fun _ h_ => h_.1))))) (Kd.R_lt (by (with_reducible repeat (first | apply Kd.R_alloc | apply Kd.R_drewN | apply Kd.R_drew)); exact HQ55.out))) (below_size (by repeat (first | (with_reducible first | exact HB.out | apply below_alloc | apply pw_below_drewN | apply below_drew1 | refine below_set ?_ GB20.out) | exact HB.out)))); have n3_ := Aside0.mk (below_step (by repeat (first | (with_reducible first | exact HB.out | apply below_alloc | apply pw_below_drewN | apply below_drew1 | refine below_set ?_ GB20.out) | exact HB.out)) hb); clear HO120; clear HO126; clear HB; have HO120 := n0_; have HO126 := n1_; have HO134 := n2_; have HB := n3_; clear n0_ n1_ n2_ n3_; (try clear hb); (try clear hb2); (try clear hgn); (try clear hk); (try clear hi); (try clear ho0)))
                          go_ret
                          exact ⟨by first | rfl | (simp [errW_none, errW_some] <;> rfl) | (simp only [← hji14, ← hji17, ← hji19, ← hji22, ← hji25, ← hji27]; first | rfl | (simp [errW_none, errW_some] <;> rfl)) | (simp [*, errW_none, errW_some] <;> rfl), by repeat (first | (with_reducible first | exact HB.out | apply below_alloc | apply pw_below_drewN | apply below_drew1) | exact HB.out)⟩
                      · rw [if_neg c26] at H
                        exact absurd H (by simp)
                    · rw [if_neg c24] at H
                      exact absurd H (by simp)
                  · rw [if_neg c23] at H
                    exact absurd H (by simp)
                · replace c21 := Bool.eq_false_iff.mpr c21
                  subst c21
                  have H1 : ((crc_Open.f y128).bind fun bt135 => (if t117 = true then (some (!bt135.2)) else (some false))) = some r := by rw [if_neg (show ¬ (false = true) by decide)] at H; exact H
                  clear H
                  have H := H1
                  clear H1
                  replace H := Option.bind_eq_some_iff.mp H
                  obtain ⟨⟨t135, t136⟩, A570, H⟩ := H
                  replace H : (if t117 = true then (some (!t136)) else (some false)) = some r := H
                  have A57 := Aside0.mk A570
                  clear A570
                  by_cases c58 : t117 = true
                  · subst c58
                    have H1 : (some (!t136)) = some r := by rw [if_pos rfl] at H; exact H
                    clear H
                    have H := H1
                    clear H1
                    obtain rfl := Option.some.inj H
                    go_enter Try.func5, Try.ntmps5
                    try go_wp2_with (first | ((with_reducible refine gate_callee (f := 9) rfl ?_); refine goesL_ (some 13) rfl rfl Try.func9 (by kernel_rfl) rfl #[] rfl (by (try simp only [List.map_toArray, List.map_cons, List.map_nil]); first | done | rfl | (simp only [List.length_drop, List.length_take]; rfl)) ?_; (with_reducible refine (watchkeeperlaw01_head.calls  true _ A4.out).mono ?_); rintro e w59 ⟨rfl, hb⟩; refine ⟨_, rfl, ?_⟩; have n0_ := Aside0.mk (below_step (by repeat (first | (with_reducible first | exact HB.out | apply below_alloc | apply pw_below_drewN | apply below_drew1) | exact HB.out)) hb); clear HB; have HB := n0_; clear n0_; (try clear hb); (try clear hb2); (try clear hgn); (try clear hk); (try clear hi)) | ((with_reducible refine gate_callee (f := 14) rfl ?_); refine goesL_ (some 19) rfl rfl Try.func14 (by kernel_rfl) rfl #[.slice A0 l0.length c0] rfl (by (try simp only [List.map_toArray, List.map_cons, List.map_nil]); first | done | rfl | (simp only [List.length_drop, List.length_take]; rfl)) ?_; (with_reducible refine (crc_Seal.calls _ _ l0 t118 _ ?side1 ?side2 A7.out).mono ?_); (case side1 => repeat (first | exact (Kd.C_below HR0.out HB.out) | (with_reducible refine Kd.C_alloc ?_ _) | (with_reducible refine Kd.C_drewN ?_ _) | (with_reducible refine Kd.C_drew ?_))); (case side2 => exact HC0.out); rintro e w60 ⟨v119, rfl, ho0, hb⟩; refine ⟨_, rfl, ?_⟩; have n0_ := Aside0.mk (Kd.R_lower ho0 (below_size (by repeat (first | (with_reducible first | exact HB.out | apply below_alloc | apply pw_below_drewN | apply below_drew1) | exact HB.out)))); have n1_ := Aside0.mk (below_step (by repeat (first | (with_reducible first | exact HB.out | apply below_alloc | apply pw_below_drewN | apply below_drew1) | exact HB.out)) hb); clear HB; have HO120 := n0_; have HB := n1_; clear n0_ n1_; (try clear hb); (try clear hb2); (try clear hgn); (try clear hk); (try clear hi); (try clear ho0); obtain ⟨Ao61, co61, eo61⟩ := Kd.R_slice HO120.out; subst eo61) | ((with_reducible refine gate_dst (N := 30) rfl ?_); refine Kd.R_lit (Kd.int .u8) _ 5 ?hg (N := 30) ?hd (xs := ([] : List Int)) (inner := []) (ok := fun _ => True) (okp := fun _ => True) ?hr ?hp (fun _ hk => hk) trivial (Below.refl _ _) (Nat.le_refl _) (by simp) ?_; (case hd => rfl); (case hg => rfl); (case hr => first | (go_simp; done) | (go_simp; rfl)); (case hp => exact (Reps.none _ _)); intro v122 w62 ho63 hb hg_ hnew_; clear hg_ hnew_; (first | rw [← Ny121.out] at ho63 | (simp only [Int.reduceToNat] at ho63; rw [← Ny121.out] at ho63)); have n0_ := Aside0.mk (Kd.R_elder' (by (with_reducible repeat (first | apply Kd.R_alloc | apply Kd.R_drewN | apply Kd.R_drew)); exact HO120.out) (Kd.R_base ho63) hb); have n1_ := Aside0.mk (Kd.R_lower (Kd.R_new' ho63 (Kd.R_lt (by (with_reducible repeat (first | apply Kd.R_alloc | apply Kd.R_drewN | apply Kd.R_drew)); exact HO120.out))) (below_size (by repeat (first | (with_reducible first | exact HB.out | apply below_alloc | apply pw_below_drewN | apply below_drew1) | exact HB.out)))); have n2_ := Aside0.mk (below_step (by repeat (first | (with_reducible first | exact HB.out | apply below_alloc | apply pw_below_drewN | apply below_drew1) | exact HB.out)) hb); clear HO120; clear HB; have HO120 := n0_; have HO123 := n1_; have HB := n2_; clear n0_ n1_ n2_; clear hb ho63) | ((with_reducible refine gate_builtin (b := .append) (xs := #[.tmp 30, .tmp 31]) rfl ?_); at_builtin; refine Kd.R_append_rows (Kd.int .u8) (w0 := w) w.heap.size rfl (.tmp 30) (.tmp 31) 22 5 (.int .u8 0) 1 rfl Try.underlying22 info5 rfl (by decide) (by omega) v122 y121 t118 _ _ _ (fun k_ => some k_ ≠ (.slice Ao61 t118.length co61 : Value).ownBlock) (fun _ => False) rfl rfl ?aO ?aR (fun _ _ h => h) (fun _ h => h.elim) ?aF ?aB ?aS ?aL ?_; (case aR => repeat (first | exact (Kd.R_reads' HO120.out).2.2 | (with_reducible refine Kd.C_alloc ?_ _) | (with_reducible refine Kd.C_drewN ?_ _) | (with_reducible refine Kd.C_drew ?_))); (case aB => exact (by repeat (first | (with_reducible first | exact HB.out | apply below_alloc | apply pw_below_drewN | apply below_drew1) | exact HB.out))); (case aF => exact (fun k_ hk => Kd.fresh' (Kd.R_lt (by (with_reducible repeat (first | apply Kd.R_alloc | apply Kd.R_drewN | apply Kd.R_drew)); exact HO120.out)) k_ hk)); (case aO => exact (by (with_reducible repeat (first | apply Kd.R_alloc | apply Kd.R_drewN | apply Kd.R_drew)); exact Kd.R_mono HO123.out (fun _ hk => hk.2))); (case aS => exact (below_size (by repeat (first | (with_reducible first | exact HB.out | apply below_alloc | apply pw_below_drewN | apply below_drew1) | exact HB.out)))); (case aL => have := LMc13.out; omega); intro v125 w64 ho hb hg hat; rw [← Ny124.out] at ho; have n0_ := Aside0.mk (Kd.R_after (ok := (fun _ => True)) (by (with_reducible repeat (first | apply Kd.R_alloc | apply Kd.R_drewN | apply Kd.R_drew)); exact HO120.out) hg hat); have n1_ := Aside0.mk (hb); have n2_ := Aside0.mk (ho); clear HO120; clear HB; clear HO123; have HO120 := n0_; have HB := n1_; have HO126 := n2_; clear n0_ n1_ n2_; clear ho hb hg hat))
                    have n0_ := Aside0.mk (Kd.R_drew HO120.out)
                    have n1_ := Aside0.mk (Kd.R_drew HO126.out)
                    have n2_ := Aside0.mk (below_drew1 HB.out)
                    clear HO120
                    clear HO126
                    clear HB
                    have HO120 := n0_
                    have HO126 := n1_
                    have HB := n2_
                    clear n0_ n1_ n2_
                    obtain ⟨Ao66, co66, eo66⟩ := Kd.R_slice HO126.out
                    (first | subst eo66 | (injection eo66 with f1_ f2_ f3_; have f4_ := f1_.symm; have f5_ := f3_.symm; clear f1_ f2_ f3_; subst f4_; subst f5_))
                    have p127 : 0 ≤ ((ji14) : Int) := of_decide_eq_true (by first | (with_reducible assumption) | assumption)
                    have q127 : (ji14) < (y124.length : Int) := of_decide_eq_true (by first | (with_reducible assumption) | assumption)
                    obtain ⟨ad127, e127, hx127_0⟩ := Kd.at_int (Kd.R_reads' HO126.out).2.2 (ji14) p127 q127
                    cases e127
                    replace p127 := eq_true p127
                    replace q127 := eq_true q127
                    have p20 : 0 ≤ ((ji14) : Int) := of_decide_eq_true (by first | (with_reducible assumption) | assumption)
                    have q20 : ((ji14) : Int) < ((y124.length : Int) : Int) := of_decide_eq_true (by first | (with_reducible assumption) | assumption)
                    obtain ⟨go20, co20, eo20, gb20, gl20, cl20, HG20⟩ := Kd.R_form HO126.out (by omega)
                    (first | cases eo20 | (injection eo20 with ea_ en_ ec_; (first | subst ea_ | (injection ea_ with ea_; subst ea_)); subst ec_; clear en_))
                    have GB20 := Aside0.mk gb20
                    have GG20 := Aside0.mk HG20
                    clear gb20 gl20 HG20
                    (first | simp only [add_plain] at hx127_0 | skip)
                    obtain ⟨hx20_0, hf20_0⟩ := Kd.R_celln 0 HO126.out ((ji14) : Int) p20 q20
                    replace p20 := eq_true p20
                    replace q20 := eq_true q20
                    have HP67 := Kd.R_putn HO126.out ((ji14) : Int) (Go.bits .xor .u8 (rd y124 (ji14)) (ji19))
                    rw [← Ny128.out] at HP67
                    have HQ67 := Aside0.mk HP67
                    clear HP67
                    refine start_ (n := 14) (S := fun w' => w'.cell? ⟨go20, ((ji14)).toNat, none⟩ = some (.int .u8 (rd y124 (ji14)))) (ds := [13]) #[false, false, false, false, false, false, false, false, false, false, false, false, false, false] (by kernel_rfl) rfl rfl (hx127_0) (fun hHeld => ?_); refine with_tabW watchkeeperlaw01_CrcBits.tab9 watchkeeperlaw01_CrcBits.bits9 (fun HT_ HW_ => ?_)
                    generalize w64.drew = w65 at HO120 HO126 HB GG20 HQ67 hf20_0 hx127_0 hx20_0 hHeld ⊢
                    refine pure_ (i := 0) (N := some 33) (v := ?_) (a' := ?_) #[true, false, false, false, false, false, false, false, false, false, false, false, false, false] rfl rfl (any_of HT_.out (by kernel_rfl)) (fun _ _ _ h => h) (Or.inl ⟨by rfl, ?_⟩) ?_ ?_
                    rotate_left
                    · intro w'
                      go_simp
                      with_reducible rfl
                    rotate_left
                    · simp only [Act.put, List.setIfInBounds_toArray, List.set_cons_zero, List.set_cons_succ, i64_w, i32_w]
                      rfl
                    refine pure_ (i := 1) (N := some 34) (v := ?_) (a' := ?_) #[true, true, false, false, false, false, false, false, false, false, false, false, false, false] rfl rfl (any_of HT_.out (by kernel_rfl)) (fun _ _ _ h => h) (Or.inl ⟨by rfl, ?_⟩) ?_ ?_
                    rotate_left
                    · intro w'
                      go_simp
                      with_reducible rfl
                    rotate_left
                    · simp only [Act.put, List.setIfInBounds_toArray, List.set_cons_zero, List.set_cons_succ, i64_w, i32_w]
                      rfl
                    refine pure_ (i := 2) (N := some 35) (v := ?_) (a' := ?_) #[true, true, true, false, false, false, false, false, false, false, false, false, false, false] rfl rfl (any_of HT_.out (by kernel_rfl)) (fun _ _ _ h => h) (Or.inl ⟨by rfl, ?_⟩) ?_ ?_
                    rotate_left
                    · intro w'
                      go_simp
                      with_reducible rfl
                    rotate_left
                    · simp only [Act.put, List.setIfInBounds_toArray, List.set_cons_zero, List.set_cons_succ, i64_w, i32_w]
                      rfl
                    refine pure_ (i := 3) (N := some 36) (v := ?_) (a' := ?_) #[true, true, true, true, false, false, false, false, false, false, false, false, false, false] rfl rfl (any_of HT_.out (by kernel_rfl)) (fun _ _ _ h => h) (Or.inl ⟨by rfl, ?_⟩) ?_ ?_
                    rotate_left
                    · intro w'
                      go_simp
                      with_reducible rfl
                    rotate_left
                    · simp only [Act.put, List.setIfInBounds_toArray, List.set_cons_zero, List.set_cons_succ, i64_w, i32_w]
                      rfl
                    refine pure_ (i := 4) (N := some 37) (v := ?_) (a' := ?_) #[true, true, true, true, true, false, false, false, false, false, false, false, false, false] rfl rfl (any_of HT_.out (by kernel_rfl)) (fun _ _ _ h => h) (Or.inl ⟨by rfl, ?_⟩) ?_ ?_
                    rotate_left
                    · intro w'
                      go_simp
                      with_reducible rfl
                    rotate_left
                    · simp only [Act.put, List.setIfInBounds_toArray, List.set_cons_zero, List.set_cons_succ, i64_w, i32_w]
                      rfl
                    refine pure_ (i := 5) (N := some 38) (v := ?_) (a' := ?_) #[true, true, true, true, true, true, false, false, false, false, false, false, false, false] rfl rfl (any_of HT_.out (by kernel_rfl)) (fun _ _ _ h => h) (Or.inl ⟨by rfl, ?_⟩) ?_ ?_
                    rotate_left
                    · intro w'
                      go_simp
                      with_reducible rfl
                    rotate_left
                    · simp only [Act.put, List.setIfInBounds_toArray, List.set_cons_zero, List.set_cons_succ, i64_w, i32_w]
                      rfl
                    refine pure_ (i := 6) (N := some 39) (v := ?_) (a' := ?_) #[true, true, true, true, true, true, true, false, false, false, false, false, false, false] rfl rfl (any_of HT_.out (by kernel_rfl)) (fun _ _ _ h => h) (Or.inl ⟨by rfl, ?_⟩) ?_ ?_
                    rotate_left
                    · intro w'
                      go_simp
                      with_reducible rfl
                    rotate_left
                    · simp only [Act.put, List.setIfInBounds_toArray, List.set_cons_zero, List.set_cons_succ, i64_w, i32_w]
                      rfl
                    refine pure_ (i := 8) (N := some 41) (v := ?_) (a' := ?_) #[true, true, true, true, true, true, true, false, true, false, false, false, false, false] rfl rfl (any_of HT_.out (by kernel_rfl)) (fun _ _ _ h => h) (Or.inl ⟨by rfl, ?_⟩) ?_ ?_
                    rotate_left
                    · intro w'
                      go_simp
                      with_reducible rfl
                    rotate_left
                    · simp only [Act.put, List.setIfInBounds_toArray, List.set_cons_zero, List.set_cons_succ, i64_w, i32_w]
                      rfl
                    refine pure_ (i := 9) (N := some 42) (v := ?_) (a' := ?_) #[true, true, true, true, true, true, true, false, true, true, false, false, false, false] rfl rfl (any_of HT_.out (by kernel_rfl)) (fun _ _ _ h => h) (Or.inl ⟨by rfl, ?_⟩) ?_ ?_
                    rotate_left
                    · intro w'
                      go_simp
                      with_reducible rfl
                    rotate_left
                    · simp only [Act.put, List.setIfInBounds_toArray, List.set_cons_zero, List.set_cons_succ, i64_w, i32_w]
                      rfl
                    refine pure_ (i := 10) (N := some 43) (v := ?_) (a' := ?_) #[true, true, true, true, true, true, true, false, true, true, true, false, false, false] rfl rfl (any_of HT_.out (by kernel_rfl)) (fun _ _ _ h => h) (Or.inl ⟨by rfl, ?_⟩) ?_ ?_
                    rotate_left
                    · intro w'
                      go_simp
                      with_reducible rfl
                    rotate_left
                    · simp only [Act.put, List.setIfInBounds_toArray, List.set_cons_zero, List.set_cons_succ, i64_w, i32_w]
                      rfl
                    refine take_ (i := 7) (N := some 40) (v := ?_) (a' := ?_) #[true, true, true, true, true, true, true, true, true, true, true, false, false, false] rfl rfl (take_ofW HT_.out HW_.out (by kernel_rfl)) (fun _ _ _ h => h) (Or.inl ⟨by rfl, ?_⟩) hHeld ?_ ?_
                    rotate_left
                    · intro w' s0
                      go_simp
                      with_reducible rfl
                    rotate_left
                    · simp only [Act.put, List.setIfInBounds_toArray, List.set_cons_zero, List.set_cons_succ, i64_w, i32_w]
                      rfl
                    refine pure_ (i := 11) (N := some 44) (v := ?_) (a' := ?_) #[true, true, true, true, true, true, true, true, true, true, true, true, false, false] rfl rfl (any_of HT_.out (by kernel_rfl)) (fun _ _ _ h => h) (Or.inl ⟨by rfl, ?_⟩) ?_ ?_
                    rotate_left
                    · intro w'
                      go_simp
                      with_reducible rfl
                    rotate_left
                    · simp only [Act.put, List.setIfInBounds_toArray, List.set_cons_zero, List.set_cons_succ, i64_w, i32_w]
                      rfl
                    refine pure_ (i := 12) (N := some 45) (v := ?_) (a' := ?_) #[true, true, true, true, true, true, true, true, true, true, true, true, true, false] rfl rfl (any_of HT_.out (by kernel_rfl)) (fun _ _ _ h => h) (Or.inl ⟨by rfl, ?_⟩) ?_ ?_
                    rotate_left
                    · intro w'
                      go_simp
                      with_reducible rfl
                    rotate_left
                    · simp only [Act.put, List.setIfInBounds_toArray, List.set_cons_zero, List.set_cons_succ, i64_w, i32_w]
                      rfl
                    refine last_ (i := 13) (N := none) #[true, true, true, true, true, true, true, true, true, true, true, true, true, true] rfl rfl (one_of HT_.out (by kernel_rfl)) (by decide) (fun K hK => ?_)
                    refine skip_ (w1 := ?_) (by rfl) rfl ?_ ?_
                    rotate_left
                    · go_simp
                      rfl
                    refine hK.out _ _ ?_
                    clear hK K
                    refine done_ (done_of HT_.out (by kernel_rfl)) ?_
                    try go_wp2_with (first | ((with_reducible refine gate_callee (f := 10) rfl ?_); refine goesL_ (some 64) rfl rfl Try.func10 (by kernel_rfl) rfl #[.slice (some ⟨go20, 0, none⟩) y128.length co66] rfl (by (try simp only [List.map_toArray, List.map_cons, List.map_nil]); first | done | (rw [show y128.length = y124.length from (Kd.R_reads' HQ67.out).1.symm] <;> rfl) | rfl | (simp only [List.length_drop, List.length_take]; rfl)) ?_; (with_reducible refine (crc_Open.calls _ _ y128 t135 t136 _ ?side1 ?side2 A57.out).mono ?_); (case side1 => refine (Kd.R_reads' (e := 5) (base := w.heap.size) (ok := fun k_ => some k_ ≠ (.slice Ao61 t118.length co61 : Value).ownBlock) (n := y124.length) (c := co66) ?_).2.2; exact (by (with_reducible repeat (first | apply Kd.R_alloc | apply Kd.R_drewN | apply Kd.R_drew)); exact HQ67.out)); (case side2 => rw [show y128.length = y124.length from (Kd.R_reads' HQ67.out).1.symm]; exact (Kd.R_reads' HO126.out).2.1); rintro e w68 ⟨v137, rfl, ho0, hb⟩; refine ⟨_, rfl, ?_⟩; have n0_ := Aside0.mk (Kd.R_elder' (by (with_reducible repeat (first | apply Kd.R_alloc | apply Kd.R_drewN | apply Kd.R_drew)); exact (Kd.R_mono (Kd.R_far (p := ⟨go20, ((ji14) : Int).toNat, none⟩) (Kd.R_mono HO120.out (fun k_ hk => (⟨hk, fun e_ => hk.2 (by rw [e_]; rfl)⟩ : _ ∧ k_ ≠ go20))) (fun _ hk => hk.2) (.int .u8 (Go.bits .xor .u8 (rd y124 (ji14)) (ji19)))) (fun _ h_ => h_.1))) (Kd.R_base ho0) hb); have n1_ := Aside0.mk (Kd.R_elder' (by (with_reducible repeat (first | apply Kd.R_alloc | apply Kd.R_drewN | apply Kd.R_drew)); exact HQ67.out) (Kd.R_base ho0) hb); have n2_ := Aside0.mk (Kd.R_lower (Kd.R_new' (Kd.R_new' ho0 (Kd.R_lt (by (with_reducible repeat (first | apply Kd.R_alloc | apply Kd.R_drewN | apply Kd.R_drew)); exact (Kd.R_mono (Kd.R_far (p := ⟨go20, ((ji14) : Int).toNat, none⟩) (Kd.R_mono HO120.out (fun k_ hk => (⟨hk, fun e_ => hk.2 (by rw [e_]; rfl)⟩ : _ ∧ k_ ≠ go20))) (fun _ hk => hk.2) (.int .u8 (Go.bits .xor .u8 (rd y124 (ji14)) (ji19)))) (fun _ h_ => h_.1))))) (Kd.R_lt (by (with_reducible repeat (first | apply Kd.R_alloc | apply Kd.R_drewN | apply Kd.R_drew)); exact HQ67.out))) (below_size (by repeat (first | (with_reducible first | exact HB.out | apply below_alloc | apply pw_below_drewN | apply below_drew1 | refine below_set ?_ GB20.out) | exact HB.out)))); have n3_ := Aside0.mk (below_step (by repeat (first | (with_reducible first | exact HB.out | apply below_alloc | apply pw_below_drewN | apply below_drew1 | refine below_set ?_ GB20.out) | exact HB.out)) hb); clear HO120; clear HO126; clear HB; have HO120 := n0_; have HO126 := n1_; have HO138 := n2_; have HB := n3_; clear n0_ n1_ n2_ n3_; (try clear hb); (try clear hb2); (try clear hgn); (try clear hk); (try clear hi); (try clear ho0)))
                    go_ret
                    exact ⟨by first | rfl | (simp [errW_none, errW_some] <;> rfl) | (simp only [← hji14, ← hji17, ← hji19]; first | rfl | (simp [errW_none, errW_some] <;> rfl)) | (simp [*, errW_none, errW_some] <;> rfl), by repeat (first | (with_reducible first | exact HB.out | apply below_alloc | apply pw_below_drewN | apply below_drew1) | exact HB.out)⟩
                  · replace c58 := Bool.eq_false_iff.mpr c58
                    subst c58
                    have H1 : (some false) = some r := by rw [if_neg (show ¬ (false = true) by decide)] at H; exact H
                    clear H
                    have H := H1
                    clear H1
                    obtain rfl := Option.some.inj H
                    go_enter Try.func5, Try.ntmps5
                    try go_wp2_with (first | ((with_reducible refine gate_callee (f := 9) rfl ?_); refine goesL_ (some 13) rfl rfl Try.func9 (by kernel_rfl) rfl #[] rfl (by (try simp only [List.map_toArray, List.map_cons, List.map_nil]); first | done | rfl | (simp only [List.length_drop, List.length_take]; rfl)) ?_; (with_reducible refine (watchkeeperlaw01_head.calls  false _ A4.out).mono ?_); rintro e w69 ⟨rfl, hb⟩; refine ⟨_, rfl, ?_⟩; have n0_ := Aside0.mk (below_step (by repeat (first | (with_reducible first | exact HB.out | apply below_alloc | apply pw_below_drewN | apply below_drew1) | exact HB.out)) hb); clear HB; have HB := n0_; clear n0_; (try clear hb); (try clear hb2); (try clear hgn); (try clear hk); (try clear hi)) | ((with_reducible refine gate_callee (f := 14) rfl ?_); refine goesL_ (some 19) rfl rfl Try.func14 (by kernel_rfl) rfl #[.slice A0 l0.length c0] rfl (by (try simp only [List.map_toArray, List.map_cons, List.map_nil]); first | done | rfl | (simp only [List.length_drop, List.length_take]; rfl)) ?_; (with_reducible refine (crc_Seal.calls _ _ l0 t118 _ ?side1 ?side2 A7.out).mono ?_); (case side1 => repeat (first | exact (Kd.C_below HR0.out HB.out) | (with_reducible refine Kd.C_alloc ?_ _) | (with_reducible refine Kd.C_drewN ?_ _) | (with_reducible refine Kd.C_drew ?_))); (case side2 => exact HC0.out); rintro e w70 ⟨v119, rfl, ho0, hb⟩; refine ⟨_, rfl, ?_⟩; have n0_ := Aside0.mk (Kd.R_lower ho0 (below_size (by repeat (first | (with_reducible first | exact HB.out | apply below_alloc | apply pw_below_drewN | apply below_drew1) | exact HB.out)))); have n1_ := Aside0.mk (below_step (by repeat (first | (with_reducible first | exact HB.out | apply below_alloc | apply pw_below_drewN | apply below_drew1) | exact HB.out)) hb); clear HB; have HO120 := n0_; have HB := n1_; clear n0_ n1_; (try clear hb); (try clear hb2); (try clear hgn); (try clear hk); (try clear hi); (try clear ho0); obtain ⟨Ao71, co71, eo71⟩ := Kd.R_slice HO120.out; subst eo71) | ((with_reducible refine gate_dst (N := 30) rfl ?_); refine Kd.R_lit (Kd.int .u8) _ 5 ?hg (N := 30) ?hd (xs := ([] : List Int)) (inner := []) (ok := fun _ => True) (okp := fun _ => True) ?hr ?hp (fun _ hk => hk) trivial (Below.refl _ _) (Nat.le_refl _) (by simp) ?_; (case hd => rfl); (case hg => rfl); (case hr => first | (go_simp; done) | (go_simp; rfl)); (case hp => exact (Reps.none _ _)); intro v122 w72 ho73 hb hg_ hnew_; clear hg_ hnew_; (first | rw [← Ny121.out] at ho73 | (simp only [Int.reduceToNat] at ho73; rw [← Ny121.out] at ho73)); have n0_ := Aside0.mk (Kd.R_elder' (by (with_reducible repeat (first | apply Kd.R_alloc | apply Kd.R_drewN | apply Kd.R_drew)); exact HO120.out) (Kd.R_base ho73) hb); have n1_ := Aside0.mk (Kd.R_lower (Kd.R_new' ho73 (Kd.R_lt (by (with_reducible repeat (first | apply Kd.R_alloc | apply Kd.R_drewN | apply Kd.R_drew)); exact HO120.out))) (below_size (by repeat (first | (with_reducible first | exact HB.out | apply below_alloc | apply pw_below_drewN | apply below_drew1) | exact HB.out)))); have n2_ := Aside0.mk (below_step (by repeat (first | (with_reducible first | exact HB.out | apply below_alloc | apply pw_below_drewN | apply below_drew1) | exact HB.out)) hb); clear HO120; clear HB; have HO120 := n0_; have HO123 := n1_; have HB := n2_; clear n0_ n1_ n2_; clear hb ho73) | ((with_reducible refine gate_builtin (b := .append) (xs := #[.tmp 30, .tmp 31]) rfl ?_); at_builtin; refine Kd.R_append_rows (Kd.int .u8) (w0 := w) w.heap.size rfl (.tmp 30) (.tmp 31) 22 5 (.int .u8 0) 1 rfl Try.underlying22 info5 rfl (by decide) (by omega) v122 y121 t118 _ _ _ (fun k_ => some k_ ≠ (.slice Ao71 t118.length co71 : Value).ownBlock) (fun _ => False) rfl rfl ?aO ?aR (fun _ _ h => h) (fun _ h => h.elim) ?aF ?aB ?aS ?aL ?_; (case aR => repeat (first | exact (Kd.R_reads' HO120.out).2.2 | (with_reducible refine Kd.C_alloc ?_ _) | (with_reducible refine Kd.C_drewN ?_ _) | (with_reducible refine Kd.C_drew ?_))); (case aB => exact (by repeat (first | (with_reducible first | exact HB.out | apply below_alloc | apply pw_below_drewN | apply below_drew1) | exact HB.out))); (case aF => exact (fun k_ hk => Kd.fresh' (Kd.R_lt (by (with_reducible repeat (first | apply Kd.R_alloc | apply Kd.R_drewN | apply Kd.R_drew)); exact HO120.out)) k_ hk)); (case aO => exact (by (with_reducible repeat (first | apply Kd.R_alloc | apply Kd.R_drewN | apply Kd.R_drew)); exact Kd.R_mono HO123.out (fun _ hk => hk.2))); (case aS => exact (below_size (by repeat (first | (with_reducible first | exact HB.out | apply below_alloc | apply pw_below_drewN | apply below_drew1) | exact HB.out)))); (case aL => have := LMc13.out; omega); intro v125 w74 ho hb hg hat; rw [← Ny124.out] at ho; have n0_ := Aside0.mk (Kd.R_after (ok := (fun _ => True)) (by (with_reducible repeat (first | apply Kd.R_alloc | apply Kd.R_drewN | apply Kd.R_drew)); exact HO120.out) hg hat); have n1_ := Aside0.mk (hb); have n2_ := Aside0.mk (ho); clear HO120; clear HB; clear HO123; have HO120 := n0_; have HB := n1_; have HO126 := n2_; clear n0_ n1_ n2_; clear ho hb hg hat))
                    have n0_ := Aside0.mk (Kd.R_drew HO120.out)
                    have n1_ := Aside0.mk (Kd.R_drew HO126.out)
                    have n2_ := Aside0.mk (below_drew1 HB.out)
                    clear HO120
                    clear HO126
                    clear HB
                    have HO120 := n0_
                    have HO126 := n1_
                    have HB := n2_
                    clear n0_ n1_ n2_
                    obtain ⟨Ao76, co76, eo76⟩ := Kd.R_slice HO126.out
                    (first | subst eo76 | (injection eo76 with f1_ f2_ f3_; have f4_ := f1_.symm; have f5_ := f3_.symm; clear f1_ f2_ f3_; subst f4_; subst f5_))
                    have p127 : 0 ≤ ((ji14) : Int) := of_decide_eq_true (by first | (with_reducible assumption) | assumption)
                    have q127 : (ji14) < (y124.length : Int) := of_decide_eq_true (by first | (with_reducible assumption) | assumption)
                    obtain ⟨ad127, e127, hx127_0⟩ := Kd.at_int (Kd.R_reads' HO126.out).2.2 (ji14) p127 q127
                    cases e127
                    replace p127 := eq_true p127
                    replace q127 := eq_true q127
                    have p20 : 0 ≤ ((ji14) : Int) := of_decide_eq_true (by first | (with_reducible assumption) | assumption)
                    have q20 : ((ji14) : Int) < ((y124.length : Int) : Int) := of_decide_eq_true (by first | (with_reducible assumption) | assumption)
                    obtain ⟨go20, co20, eo20, gb20, gl20, cl20, HG20⟩ := Kd.R_form HO126.out (by omega)
                    (first | cases eo20 | (injection eo20 with ea_ en_ ec_; (first | subst ea_ | (injection ea_ with ea_; subst ea_)); subst ec_; clear en_))
                    have GB20 := Aside0.mk gb20
                    have GG20 := Aside0.mk HG20
                    clear gb20 gl20 HG20
                    (first | simp only [add_plain] at hx127_0 | skip)
                    obtain ⟨hx20_0, hf20_0⟩ := Kd.R_celln 0 HO126.out ((ji14) : Int) p20 q20
                    replace p20 := eq_true p20
                    replace q20 := eq_true q20
                    have HP77 := Kd.R_putn HO126.out ((ji14) : Int) (Go.bits .xor .u8 (rd y124 (ji14)) (ji19))
                    rw [← Ny128.out] at HP77
                    have HQ77 := Aside0.mk HP77
                    clear HP77
                    refine start_ (n := 14) (S := fun w' => w'.cell? ⟨go20, ((ji14)).toNat, none⟩ = some (.int .u8 (rd y124 (ji14)))) (ds := [13]) #[false, false, false, false, false, false, false, false, false, false, false, false, false, false] (by kernel_rfl) rfl rfl (hx127_0) (fun hHeld => ?_); refine with_tabW watchkeeperlaw01_CrcBits.tab9 watchkeeperlaw01_CrcBits.bits9 (fun HT_ HW_ => ?_)
                    generalize w74.drew = w75 at HO120 HO126 HB GG20 HQ77 hf20_0 hx127_0 hx20_0 hHeld ⊢
                    refine pure_ (i := 0) (N := some 33) (v := ?_) (a' := ?_) #[true, false, false, false, false, false, false, false, false, false, false, false, false, false] rfl rfl (any_of HT_.out (by kernel_rfl)) (fun _ _ _ h => h) (Or.inl ⟨by rfl, ?_⟩) ?_ ?_
                    rotate_left
                    · intro w'
                      go_simp
                      with_reducible rfl
                    rotate_left
                    · simp only [Act.put, List.setIfInBounds_toArray, List.set_cons_zero, List.set_cons_succ, i64_w, i32_w]
                      rfl
                    refine pure_ (i := 1) (N := some 34) (v := ?_) (a' := ?_) #[true, true, false, false, false, false, false, false, false, false, false, false, false, false] rfl rfl (any_of HT_.out (by kernel_rfl)) (fun _ _ _ h => h) (Or.inl ⟨by rfl, ?_⟩) ?_ ?_
                    rotate_left
                    · intro w'
                      go_simp
                      with_reducible rfl
                    rotate_left
                    · simp only [Act.put, List.setIfInBounds_toArray, List.set_cons_zero, List.set_cons_succ, i64_w, i32_w]
                      rfl
                    refine pure_ (i := 2) (N := some 35) (v := ?_) (a' := ?_) #[true, true, true, false, false, false, false, false, false, false, false, false, false, false] rfl rfl (any_of HT_.out (by kernel_rfl)) (fun _ _ _ h => h) (Or.inl ⟨by rfl, ?_⟩) ?_ ?_
                    rotate_left
                    · intro w'
                      go_simp
                      with_reducible rfl
                    rotate_left
                    · simp only [Act.put, List.setIfInBounds_toArray, List.set_cons_zero, List.set_cons_succ, i64_w, i32_w]
                      rfl
                    refine pure_ (i := 3) (N := some 36) (v := ?_) (a' := ?_) #[true, true, true, true, false, false, false, false, false, false, false, false, false, false] rfl rfl (any_of HT_.out (by kernel_rfl)) (fun _ _ _ h => h) (Or.inl ⟨by rfl, ?_⟩) ?_ ?_
                    rotate_left
                    · intro w'
                      go_simp
                      with_reducible rfl
                    rotate_left
                    · simp only [Act.put, List.setIfInBounds_toArray, List.set_cons_zero, List.set_cons_succ, i64_w, i32_w]
                      rfl
                    refine pure_ (i := 4) (N := some 37) (v := ?_) (a' := ?_) #[true, true, true, true, true, false, false, false, false, false, false, false, false, false] rfl rfl (any_of HT_.out (by kernel_rfl)) (fun _ _ _ h => h) (Or.inl ⟨by rfl, ?_⟩) ?_ ?_
                    rotate_left
                    · intro w'
                      go_simp
                      with_reducible rfl
                    rotate_left
                    · simp only [Act.put, List.setIfInBounds_toArray, List.set_cons_zero, List.set_cons_succ, i64_w, i32_w]
                      rfl
                    refine pure_ (i := 5) (N := some 38) (v := ?_) (a' := ?_) #[true, true, true, true, true, true, false, false, false, false, false, false, false, false] rfl rfl (any_of HT_.out (by kernel_rfl)) (fun _ _ _ h => h) (Or.inl ⟨by rfl, ?_⟩) ?_ ?_
                    rotate_left
                    · intro w'
                      go_simp
                      with_reducible rfl
                    rotate_left
                    · simp only [Act.put, List.setIfInBounds_toArray, List.set_cons_zero, List.set_cons_succ, i64_w, i32_w]
                      rfl
                    refine pure_ (i := 6) (N := some 39) (v := ?_) (a' := ?_) #[true, true, true, true, true, true, true, false, false, false, false, false, false, false] rfl rfl (any_of HT_.out (by kernel_rfl)) (fun _ _ _ h => h) (Or.inl ⟨by rfl, ?_⟩) ?_ ?_
                    rotate_left
                    · intro w'
                      go_simp
                      with_reducible rfl
                    rotate_left
                    · simp only [Act.put, List.setIfInBounds_toArray, List.set_cons_zero, List.set_cons_succ, i64_w, i32_w]
                      rfl
                    refine pure_ (i := 8) (N := some 41) (v := ?_) (a' := ?_) #[true, true, true, true, true, true, true, false, true, false, false, false, false, false] rfl rfl (any_of HT_.out (by kernel_rfl)) (fun _ _ _ h => h) (Or.inl ⟨by rfl, ?_⟩) ?_ ?_
                    rotate_left
                    · intro w'
                      go_simp
                      with_reducible rfl
                    rotate_left
                    · simp only [Act.put, List.setIfInBounds_toArray, List.set_cons_zero, List.set_cons_succ, i64_w, i32_w]
                      rfl
                    refine pure_ (i := 9) (N := some 42) (v := ?_) (a' := ?_) #[true, true, true, true, true, true, true, false, true, true, false, false, false, false] rfl rfl (any_of HT_.out (by kernel_rfl)) (fun _ _ _ h => h) (Or.inl ⟨by rfl, ?_⟩) ?_ ?_
                    rotate_left
                    · intro w'
                      go_simp
                      with_reducible rfl
                    rotate_left
                    · simp only [Act.put, List.setIfInBounds_toArray, List.set_cons_zero, List.set_cons_succ, i64_w, i32_w]
                      rfl
                    refine pure_ (i := 10) (N := some 43) (v := ?_) (a' := ?_) #[true, true, true, true, true, true, true, false, true, true, true, false, false, false] rfl rfl (any_of HT_.out (by kernel_rfl)) (fun _ _ _ h => h) (Or.inl ⟨by rfl, ?_⟩) ?_ ?_
                    rotate_left
                    · intro w'
                      go_simp
                      with_reducible rfl
                    rotate_left
                    · simp only [Act.put, List.setIfInBounds_toArray, List.set_cons_zero, List.set_cons_succ, i64_w, i32_w]
                      rfl
                    refine take_ (i := 7) (N := some 40) (v := ?_) (a' := ?_) #[true, true, true, true, true, true, true, true, true, true, true, false, false, false] rfl rfl (take_ofW HT_.out HW_.out (by kernel_rfl)) (fun _ _ _ h => h) (Or.inl ⟨by rfl, ?_⟩) hHeld ?_ ?_
                    rotate_left
                    · intro w' s0
                      go_simp
                      with_reducible rfl
                    rotate_left
                    · simp only [Act.put, List.setIfInBounds_toArray, List.set_cons_zero, List.set_cons_succ, i64_w, i32_w]
                      rfl
                    refine pure_ (i := 11) (N := some 44) (v := ?_) (a' := ?_) #[true, true, true, true, true, true, true, true, true, true, true, true, false, false] rfl rfl (any_of HT_.out (by kernel_rfl)) (fun _ _ _ h => h) (Or.inl ⟨by rfl, ?_⟩) ?_ ?_
                    rotate_left
                    · intro w'
                      go_simp
                      with_reducible rfl
                    rotate_left
                    · simp only [Act.put, List.setIfInBounds_toArray, List.set_cons_zero, List.set_cons_succ, i64_w, i32_w]
                      rfl
                    refine pure_ (i := 12) (N := some 45) (v := ?_) (a' := ?_) #[true, true, true, true, true, true, true, true, true, true, true, true, true, false] rfl rfl (any_of HT_.out (by kernel_rfl)) (fun _ _ _ h => h) (Or.inl ⟨by rfl, ?_⟩) ?_ ?_
                    rotate_left
                    · intro w'
                      go_simp
                      with_reducible rfl
                    rotate_left
                    · simp only [Act.put, List.setIfInBounds_toArray, List.set_cons_zero, List.set_cons_succ, i64_w, i32_w]
                      rfl
                    refine last_ (i := 13) (N := none) #[true, true, true, true, true, true, true, true, true, true, true, true, true, true] rfl rfl (one_of HT_.out (by kernel_rfl)) (by decide) (fun K hK => ?_)
                    refine skip_ (w1 := ?_) (by rfl) rfl ?_ ?_
                    rotate_left
                    · go_simp
                      rfl
                    refine hK.out _ _ ?_
                    clear hK K
                    refine done_ (done_of HT_.out (by kernel_rfl)) ?_
                    try go_wp2_with (first | ((with_reducible refine gate_callee (f := 10) rfl ?_); refine goesL_ (some 64) rfl rfl Try.func10 (by kernel_rfl) rfl #[.slice (some ⟨go20, 0, none⟩) y128.length co76] rfl (by (try simp only [List.map_toArray, List.map_cons, List.map_nil]); first | done | (rw [show y128.length = y124.length from (Kd.R_reads' HQ77.out).1.symm] <;> rfl) | rfl | (simp only [List.length_drop, List.length_take]; rfl)) ?_; (with_reducible refine (crc_Open.calls _ _ y128 t135 t136 _ ?side1 ?side2 A57.out).mono ?_); (case side1 => refine (Kd.R_reads' (e := 5) (base := w.heap.size) (ok := fun k_ => some k_ ≠ (.slice Ao71 t118.length co71 : Value).ownBlock) (n := y124.length) (c := co76) ?_).2.2; exact (by (with_reducible repeat (first | apply Kd.R_alloc | apply Kd.R_drewN | apply Kd.R_drew)); exact HQ77.out)); (case side2 => rw [show y128.length = y124.length from (Kd.R_reads' HQ77.out).1.symm]; exact (Kd.R_reads' HO126.out).2.1); rintro e w78 ⟨v137, rfl, ho0, hb⟩; refine ⟨_, rfl, ?_⟩; have n0_ := Aside0.mk (Kd.R_elder' (by (with_reducible repeat (first | apply Kd.R_alloc | apply Kd.R_drewN | apply Kd.R_drew)); exact (Kd.R_mono (Kd.R_far (p := ⟨go20, ((ji14) : Int).toNat, none⟩) (Kd.R_mono HO120.out (fun k_ hk => (⟨hk, fun e_ => hk.2 (by rw [e_]; rfl)⟩ : _ ∧ k_ ≠ go20))) (fun _ hk => hk.2) (.int .u8 (Go.bits .xor .u8 (rd y124 (ji14)) (ji19)))) (fun _ h_ => h_.1))) (Kd.R_base ho0) hb); have n1_ := Aside0.mk (Kd.R_elder' (by (with_reducible repeat (first | apply Kd.R_alloc | apply Kd.R_drewN | apply Kd.R_drew)); exact HQ77.out) (Kd.R_base ho0) hb); have n2_ := Aside0.mk (Kd.R_lower (Kd.R_new' (Kd.R_new' ho0 (Kd.R_lt (by (with_reducible repeat (first | apply Kd.R_alloc | apply Kd.R_drewN | apply Kd.R_drew)); exact (Kd.R_mono (Kd.R_far (p := ⟨go20, ((ji14) : Int).toNat, none⟩) (Kd.R_mono HO120.out (fun k_ hk => (⟨hk, fun e_ => hk.2 (by rw [e_]; rfl)⟩ : _ ∧ k_ ≠ go20))) (fun _ hk => hk.2) (.int .u8 (Go.bits .xor .u8 (rd y124 (ji14)) (ji19)))) (fun _ h_ => h_.1))))) (Kd.R_lt (by (with_reducible repeat (first | apply Kd.R_alloc | apply Kd.R_drewN | apply Kd.R_drew)); exact HQ77.out))) (below_size (by repeat (first | (with_reducible first | exact HB.out | apply below_alloc | apply pw_below_drewN | apply below_drew1 | refine below_set ?_ GB20.out) | exact HB.out)))); have n3_ := Aside0.mk (below_step (by repeat (first | (with_reducible first | exact HB.out | apply below_alloc | apply pw_below_drewN | apply below_drew1 | refine below_set ?_ GB20.out) | exact HB.out)) hb); clear HO120; clear HO126; clear HB; have HO120 := n0_; have HO126 := n1_; have HO138 := n2_; have HB := n3_; clear n0_ n1_ n2_ n3_; (try clear hb); (try clear hb2); (try clear hgn); (try clear hk); (try clear hi); (try clear ho0)))
                    go_ret
                    exact ⟨by first | rfl | (simp [errW_none, errW_some] <;> rfl) | (simp only [← hji14, ← hji17, ← hji19]; first | rfl | (simp [errW_none, errW_some] <;> rfl)) | (simp [*, errW_none, errW_some] <;> rfl), by repeat (first | (with_reducible first | exact HB.out | apply below_alloc | apply pw_below_drewN | apply below_drew1) | exact HB.out)⟩
              · rw [if_neg c18] at H
                exact absurd H (by simp)
            · rw [if_neg c16] at H
              exact absurd H (by simp)
          · rw [if_neg c15] at H
            exact absurd H (by simp)
        · rw [if_neg c13] at H
          exact absurd H (by simp)

/-- THE ONE PURE STATEMENT of watchkeeperlaw01_CrcBits: yours. -/
def watchkeeperlaw01_CrcBits.Pure : Prop := ∀ (l0 : List Int) (a1 : Int) (a2 : Bool), l0.length ≤ maxLen → l0.length * 1 ≤ 140737488351232 → (∀ x ∈ l0, (Lit.int .u8 x).wf = true) → (Lit.int .u16 a1).wf = true → watchkeeperlaw01_CrcBits.f l0 a1 a2 = some true
theorem watchkeeperlaw01_CrcBits.walk (P : watchkeeperlaw01_CrcBits.Pure) (a0 : Option Addr) (len0 cap0 : Nat) (z0 : List Int) (a1 : Int) (a2 : Bool) (w : World) (w0 : (a0 = none ∧ len0 = 0 ∧ cap0 = 0 ∧ z0 = []) ∨ ∃ x, a0 = some x ∧ len0 ≤ cap0 ∧ cap0 ≤ maxLen ∧ z0.length = cap0 ∧ (∀ i, i < z0.length → w.cell? (x.add i) = some (.int .u8 (z0.getD i 0))) ∧ ∀ n ∈ z0, (Lit.int .u8 n).wf = true) (y0 : len0 * 1 ≤ 140737488351232) (w1 : (Lit.int .u16 a1).wf = true) :
    Calls Try.prog 5 #[.slice a0 len0 cap0, .int .u16 a1, .bool a2] w fun e w' => e = .returned (.bool true) ∧ Below w.heap.size w w' := by
  obtain ⟨l0, rfl, hr0, hm0, hw0, hc0⟩ := ReadsInt.ofRowC w0
  have h := P l0 a1 a2 hm0 y0 hw0 w1
  refine (watchkeeperlaw01_CrcBits.calls _ _ l0 a1 a2 true w (Kd.C_of_reads (d := (0 : Int)) (h1 := fun _ => rfl) hr0) hc0 h).mono ?_
  rintro e w' ⟨rfl, hd⟩
  exact ⟨rfl, hd⟩

end Go.Proofs.Ytjbodeoghnjenaa.QA
