/- Contracts of the functions that the law reaches, and what each comes to as a plain function; laid by a program of mine over the printer. -/
import Derived.Test.YtafkabkoglbndaaQC0
import Derived.Test.YtafkabkoglbndaaQC1
namespace Go.Proofs.Ytafkabkoglbndaa.QC
open Go.RowKit Go.Proofs.YtafkabkoglbndaaW.PrintWords Go.Proofs.YtafkabkoglbndaaW.PrintLast Go.Proofs.YtafkabkoglbndaaW.PrintMore
attribute [local go_sem] max2_int min2_int max_two min_two max_three min_three max_four min_four   -- for this text's walks alone
set_option linter.unusedVariables false
set_option linter.unusedSimpArgs false

/-! ### watchkeeperlaw02_RtuSpoilt: function 7 -/
def watchkeeperlaw02_RtuSpoilt.j0 : Nat → Int → Bool → Bool → List Int → Bool → Option (Bool)
  | 0, _, _, _, _, _ => none
  | k + 1, x2, x3, x9, x10, x33 => if x33 = true then (some x9) else (if x3 = true then (if (x10.length : Int) = 0 then (none) else (if 0 ≤ (Int.tmod (wrap64 (x2)) (x10.length : Int)) then (if (Int.tmod (wrap64 (x2)) (x10.length : Int)) ≤ (x10.length : Int) then ((some (x10.take ((Int.tmod (wrap64 (x2)) (x10.length : Int)) : Int).toNat : List Int)).bind fun y124 => ((rtu_Get.f y124).bind fun bt128 => ((watchkeeperref01_Open.f y124).bind fun bt133 => (if x9 = true then (if (y124.length : Int) < 4 then (some ((bt128.2.2 != 0) == true)) else (some ((bt128.2.2 != 0) == (!bt133.2)))) else (some false))))) else (none)) else (none))) else ((some (([] : List Int) : List Int)).bind fun y137 => (if y137.length + x10.length < 140737488355328 then ((some (y137 ++ x10 : List Int)).bind fun y140 => (if (wrap64 (8 * (y140.length : Int))) = 0 then (none) else (if 0 ≤ (wrap64 (Int.tdiv (Int.tmod (wrap64 (x2)) (wrap64 (8 * (y140.length : Int)))) 8)) then (if (wrap64 (Int.tdiv (Int.tmod (wrap64 (x2)) (wrap64 (8 * (y140.length : Int)))) 8)) < (y140.length : Int) then (if 0 ≤ (Int.tmod (Int.tmod (wrap64 (x2)) (wrap64 (8 * (y140.length : Int)))) 8) then ((rtu_Get.f (y140.set ((wrap64 (Int.tdiv (Int.tmod (wrap64 (x2)) (wrap64 (8 * (y140.length : Int)))) 8)) : Int).toNat (Go.bits .xor .u8 (rd y140 (wrap64 (Int.tdiv (Int.tmod (wrap64 (x2)) (wrap64 (8 * (y140.length : Int)))) 8))) (shl .u8 1 (Int.tmod (Int.tmod (wrap64 (x2)) (wrap64 (8 * (y140.length : Int)))) 8))))).bind fun bt145 => (if x9 = true then (some (bt145.2.2 == 23)) else (some false))) else (none)) else (none)) else (none)))) else (none))))
def watchkeeperlaw02_RtuSpoilt.f (k : Nat) (a0 : Int) (l1 : List Int) (a2 : Int) (a3 : Bool) : Option (Bool) := (watchkeeperlaw02_head.f).bind fun t120 => ((rtu_Put.f a0 l1).bind fun t121 => (if (l1.length : Int) > 253 then (watchkeeperlaw02_RtuSpoilt.j0 k a2 a3 t120 t121 true) else (watchkeeperlaw02_RtuSpoilt.j0 k a2 a3 t120 t121 ((t121.length : Int) == 0))))
theorem watchkeeperlaw02_RtuSpoilt.mono_l : ∀ k, (∀ y0 y1 y2 y3 y4, LeO (watchkeeperlaw02_RtuSpoilt.j0 k y0 y1 y2 y3 y4) (watchkeeperlaw02_RtuSpoilt.j0 (k + 1) y0 y1 y2 y3 y4))
  | 0 => fun _ _ _ _ _ r h => by simp [watchkeeperlaw02_RtuSpoilt.j0] at h
  | k + 1 => by
    have ih0 := watchkeeperlaw02_RtuSpoilt.mono_l k
    · intro y0 y1 y2 y3 y4
      unfold watchkeeperlaw02_RtuSpoilt.j0
      repeat' first
      | (with_reducible exact ih0 _ _ _ _ _)
      | (with_reducible exact LeO.refl _)
      | (with_reducible exact LeO.none _)
      | (with_reducible refine LeO.ite ?_ ?_)
      | (with_reducible refine LeO.bind ?_ (fun _ => ?_))
      | exact ih0 _ _ _ _ _
      | exact LeO.none _
      | refine LeO.ite ?_ ?_
      | refine LeO.bind ?_ (fun _ => ?_)
theorem watchkeeperlaw02_RtuSpoilt.mono : ∀ a0 a1 a2 a3 k, LeO (watchkeeperlaw02_RtuSpoilt.f k a0 a1 a2 a3) (watchkeeperlaw02_RtuSpoilt.f (k + 1) a0 a1 a2 a3) := by
  intro a0 a1 a2 a3 k
  have ih0 := watchkeeperlaw02_RtuSpoilt.mono_l k
  unfold watchkeeperlaw02_RtuSpoilt.f
  repeat' first
      | (with_reducible exact ih0 _ _ _ _ _)
      | (with_reducible exact LeO.refl _)
      | (with_reducible exact LeO.none _)
      | (with_reducible refine LeO.ite ?_ ?_)
      | (with_reducible refine LeO.bind ?_ (fun _ => ?_))
      | exact ih0 _ _ _ _ _
      | exact LeO.none _
      | refine LeO.ite ?_ ?_
      | refine LeO.bind ?_ (fun _ => ?_)
def watchkeeperlaw02_RtuSpoilt.T12 : Bool × List (List Nat × List Nat) := (true, [([], []), ([], []), ([1], [1]), ([], []), ([], []), ([4], [4]), ([3, 5], [3, 5]), ([6], [6]), ([], []), ([8], [8]), ([9], [9]), ([7, 10], [7, 10]), ([0, 2, 0, 1, 2, 3, 4, 5, 6, 7, 8, 9, 10, 11], [0, 2]), ([12, 11, 0, 1, 2, 3, 4, 5, 6, 7, 8, 9, 10, 11], [11, 12])])
def watchkeeperlaw02_RtuSpoilt.B12 : List Nat := [0, 0, 2, 0, 0, 16, 56, 120, 0, 256, 768, 2040, 4095, 8191]
theorem watchkeeperlaw02_RtuSpoilt.tab12 : rtab .any (opsOf Try.f7 12) = watchkeeperlaw02_RtuSpoilt.T12 := by kernel_rfl
theorem watchkeeperlaw02_RtuSpoilt.bits12 : waitsOk watchkeeperlaw02_RtuSpoilt.T12.2 watchkeeperlaw02_RtuSpoilt.B12 = true := by kernel_rfl
set_option maxHeartbeats 8000000 in
set_option maxRecDepth 100000 in
theorem watchkeeperlaw02_RtuSpoilt.calls (k : Nat) (a0 : Int) (A1 : Option Addr) (c1 : Nat) (l1 : List Int) (a2 : Int) (a3 : Bool) (r : Bool) (w : World) (hr1 : Kd.C (Kd.int .u8) w A1 l1.length l1) (hc1 : l1.length ≤ c1) (h : watchkeeperlaw02_RtuSpoilt.f k a0 l1 a2 a3 = some r) :
    Calls Try.prog 7 #[.int .u8 a0, .slice A1 l1.length c1, .int .u16 a2, .bool a3] w fun e w' => e = .returned (.bool r) ∧ Below w.heap.size w w' := by
  have HR1 := Aside0.mk hr1
  have HC1 := Aside0.mk hc1
  clear hr1 hc1
  have HB := Aside0.mk (Below.refl w.heap.size w)
  have H : ((watchkeeperlaw02_head.f).bind fun t120 => ((rtu_Put.f a0 l1).bind fun t121 => (if (l1.length : Int) > 253 then (watchkeeperlaw02_RtuSpoilt.j0 k a2 a3 t120 t121 true) else (watchkeeperlaw02_RtuSpoilt.j0 k a2 a3 t120 t121 ((t121.length : Int) == 0))))) = some r := h
  clear h
  replace H := Option.bind_eq_some_iff.mp H
  obtain ⟨t120, A50, H⟩ := H
  replace H : ((rtu_Put.f a0 l1).bind fun t121 => (if (l1.length : Int) > 253 then (watchkeeperlaw02_RtuSpoilt.j0 k a2 a3 t120 t121 true) else (watchkeeperlaw02_RtuSpoilt.j0 k a2 a3 t120 t121 ((t121.length : Int) == 0)))) = some r := H
  have A5 := Aside0.mk A50
  clear A50
  replace H := Option.bind_eq_some_iff.mp H
  obtain ⟨t121, A60, H⟩ := H
  replace H : (if (l1.length : Int) > 253 then (watchkeeperlaw02_RtuSpoilt.j0 k a2 a3 t120 t121 true) else (watchkeeperlaw02_RtuSpoilt.j0 k a2 a3 t120 t121 ((t121.length : Int) == 0))) = some r := H
  have A6 := Aside0.mk A60
  clear A60
  have HC7 := Aside0.mk H
  clear H
  go_enter Try.func7, Try.ntmps7
  go_upto_region 3 with (first | ((with_reducible refine gate_callee (f := 9) rfl ?_); refine goesL_ (some 22) rfl rfl Try.func9 (by kernel_rfl) rfl #[] rfl (by (try simp only [List.map_toArray, List.map_cons, List.map_nil]); first | done | rfl | (simp only [List.length_drop, List.length_take]; rfl)) ?_; (with_reducible refine (watchkeeperlaw02_head.calls  t120 _ A5.out).mono ?_); rintro e w8 ⟨rfl, hb⟩; refine ⟨_, rfl, ?_⟩; have n0_ := Aside0.mk (below_step (by repeat (first | (with_reducible first | exact HB.out | apply below_alloc | apply pw_below_drewN | apply below_drew1) | exact HB.out)) hb); clear HB; have HB := n0_; clear n0_; (try clear hb); (try clear hb2); (try clear hgn); (try clear hk); (try clear hi)) | ((with_reducible refine gate_callee (f := 12) rfl ?_); refine goesL_ (some 25) rfl rfl Try.func12 (by kernel_rfl) rfl #[.int .u8 a0, .slice A1 l1.length c1] rfl (by (try simp only [List.map_toArray, List.map_cons, List.map_nil]); first | done | rfl | (simp only [List.length_drop, List.length_take]; rfl)) ?_; (with_reducible refine (rtu_Put.calls a0 _ _ l1 t121 _ ?side1 ?side2 A6.out).mono ?_); (case side1 => repeat (first | exact (Kd.C_below HR1.out HB.out) | (with_reducible refine Kd.C_alloc ?_ _) | (with_reducible refine Kd.C_drewN ?_ _) | (with_reducible refine Kd.C_drew ?_))); (case side2 => exact HC1.out); rintro e w9 ⟨v122, rfl, ho0, hb⟩; refine ⟨_, rfl, ?_⟩; have n0_ := Aside0.mk (Kd.R_lower ho0 (below_size (by repeat (first | (with_reducible first | exact HB.out | apply below_alloc | apply pw_below_drewN | apply below_drew1) | exact HB.out)))); have n1_ := Aside0.mk (below_step (by repeat (first | (with_reducible first | exact HB.out | apply below_alloc | apply pw_below_drewN | apply below_drew1) | exact HB.out)) hb); clear HB; have HO123 := n0_; have HB := n1_; clear n0_ n1_; (try clear hb); (try clear hb2); (try clear hgn); (try clear hk); (try clear hi); (try clear ho0)))
  (try simp only [Act.put, List.setIfInBounds_toArray, List.set_cons_zero, List.set_cons_succ])
  go_cut [33] (fun v33 wc => ∃ (kq : Nat) (x33_6 : Bool), v33 = .bool x33_6 ∧ Aside0 (watchkeeperlaw02_RtuSpoilt.j0 kq a2 a3 t120 t121 x33_6 = some r) ∧ Aside0 (kq ≤ k) ∧ Aside0 (Kd.R (Kd.int .u8) 5 wc w.heap.size (fun _ => True) v122 t121) ∧ Aside0 (Below w.heap.size w wc))
  case first =>
    have H := HC7.out
    clear HC7
    by_cases c10 : (l1.length : Int) > 253
    · rw [if_pos c10] at H
      have c10b0 : decide (253 < (l1.length : Int)) = true := decide_eq_true c10
      have c10b1 : decide (253 < l1.length) = true := decide_eq_true (by omega)
      clear c10
      (first | rw [c10b0] | (simp only [i64_w, i32_w]; rw [c10b0]) | skip)
      have H' := Aside0.mk H
      clear H
      go_wp2
      go_meet
      case rel => exact ⟨_, (true), (by first | rfl | (simp; done) | (simp [*]; done)), H', ⟨by first | omega | exact Nat.le_refl _⟩, ⟨by (with_reducible repeat (first | apply Kd.R_alloc | apply Kd.R_drewN | apply Kd.R_drew)); exact HO123.out⟩, ⟨by repeat (first | (with_reducible first | exact HB.out | apply below_alloc | apply pw_below_drewN | apply below_drew1) | exact HB.out)⟩⟩
    · rw [if_neg c10] at H
      have c10b0 : decide (253 < (l1.length : Int)) = false := decide_eq_false c10
      have c10b1 : decide (253 < l1.length) = false := decide_eq_false (by omega)
      clear c10
      (first | rw [c10b0] | (simp only [i64_w, i32_w]; rw [c10b0]) | skip)
      have H' := Aside0.mk H
      clear H
      obtain ⟨Ao11, co11, eo11⟩ := Kd.R_slice HO123.out
      subst eo11
      go_wp2
      go_meet
      case rel => exact ⟨_, (((t121.length : Int) == 0)), (by first | rfl | (simp; done) | (simp [*]; done)), H', ⟨by first | omega | exact Nat.le_refl _⟩, ⟨by (with_reducible repeat (first | apply Kd.R_alloc | apply Kd.R_drewN | apply Kd.R_drew)); exact HO123.out⟩, ⟨by repeat (first | (with_reducible first | exact HB.out | apply below_alloc | apply pw_below_drewN | apply below_drew1) | exact HB.out)⟩⟩
  case rest =>
    clear HC7
    try clear c1
    try clear p2
    try clear c7
    try clear c9
    try clear c10
    try clear c10b0
    try clear c10b1
    obtain ⟨kq, x33_6, rfl, HA, HJ6, HO_10, HB⟩ := hcut
    cases kq with
    | zero => exact absurd HA.out (by simp [watchkeeperlaw02_RtuSpoilt.j0])
    | succ kj6 =>
      have H := HA.out
      clear HA
      simp only [watchkeeperlaw02_RtuSpoilt.j0] at H
      by_cases c12 : x33_6 = true
      · subst c12
        have H1 : (some t120) = some r := by rw [if_pos rfl] at H; exact H
        clear H
        have H := H1
        clear H1
        obtain rfl := Option.some.inj H
        go_wp2
        go_ret
        exact ⟨by first | rfl | (simp [errW_none, errW_some] <;> rfl) | (simp [*, errW_none, errW_some] <;> rfl), by repeat (first | (with_reducible first | exact HB.out | apply below_alloc | apply pw_below_drewN | apply below_drew1) | exact HB.out)⟩
      · replace c12 := Bool.eq_false_iff.mpr c12
        subst c12
        have H1 : (if a3 = true then (if (t121.length : Int) = 0 then (none) else (if 0 ≤ (Int.tmod (wrap64 (a2)) (t121.length : Int)) then (if (Int.tmod (wrap64 (a2)) (t121.length : Int)) ≤ (t121.length : Int) then ((some (t121.take ((Int.tmod (wrap64 (a2)) (t121.length : Int)) : Int).toNat : List Int)).bind fun y124 => ((rtu_Get.f y124).bind fun bt128 => ((watchkeeperref01_Open.f y124).bind fun bt133 => (if t120 = true then (if (y124.length : Int) < 4 then (some ((bt128.2.2 != 0) == true)) else (some ((bt128.2.2 != 0) == (!bt133.2)))) else (some false))))) else (none)) else (none))) else ((some (([] : List Int) : List Int)).bind fun y137 => (if y137.length + t121.length < 140737488355328 then ((some (y137 ++ t121 : List Int)).bind fun y140 => (if (wrap64 (8 * (y140.length : Int))) = 0 then (none) else (if 0 ≤ (wrap64 (Int.tdiv (Int.tmod (wrap64 (a2)) (wrap64 (8 * (y140.length : Int)))) 8)) then (if (wrap64 (Int.tdiv (Int.tmod (wrap64 (a2)) (wrap64 (8 * (y140.length : Int)))) 8)) < (y140.length : Int) then (if 0 ≤ (Int.tmod (Int.tmod (wrap64 (a2)) (wrap64 (8 * (y140.length : Int)))) 8) then ((rtu_Get.f (y140.set ((wrap64 (Int.tdiv (Int.tmod (wrap64 (a2)) (wrap64 (8 * (y140.length : Int)))) 8)) : Int).toNat (Go.bits .xor .u8 (rd y140 (wrap64 (Int.tdiv (Int.tmod (wrap64 (a2)) (wrap64 (8 * (y140.length : Int)))) 8))) (shl .u8 1 (Int.tmod (Int.tmod (wrap64 (a2)) (wrap64 (8 * (y140.length : Int)))) 8))))).bind fun bt145 => (if t120 = true then (some (bt145.2.2 == 23)) else (some false))) else (none)) else (none)) else (none)))) else (none)))) = some r := by rw [if_neg (show ¬ (false = true) by decide)] at H; exact H
        clear H
        have H := H1
        clear H1
        by_cases c13 : a3 = true
        · subst c13
          have H1 : (if (t121.length : Int) = 0 then (none) else (if 0 ≤ (Int.tmod (wrap64 (a2)) (t121.length : Int)) then (if (Int.tmod (wrap64 (a2)) (t121.length : Int)) ≤ (t121.length : Int) then ((some (t121.take ((Int.tmod (wrap64 (a2)) (t121.length : Int)) : Int).toNat : List Int)).bind fun y124 => ((rtu_Get.f y124).bind fun bt128 => ((watchkeeperref01_Open.f y124).bind fun bt133 => (if t120 = true then (if (y124.length : Int) < 4 then (some ((bt128.2.2 != 0) == true)) else (some ((bt128.2.2 != 0) == (!bt133.2)))) else (some false))))) else (none)) else (none))) = some r := by rw [if_pos rfl] at H; exact H
          clear H
          have H := H1
          clear H1
          by_cases c14 : (t121.length : Int) = 0
          · rw [if_pos c14] at H
            exact absurd H (by simp)
          · rw [if_neg c14] at H
            have c14b0 : ((t121.length : Int) == 0) = false := beq_eq_false_iff_ne.mpr c14
            have c14b1 : ((t121.length : Int) != 0) = true := bne_iff_ne.mpr c14
            have c14b2 : ¬ (t121 = []) := fun h_ => c14 (by rw [h_]; rfl)
            obtain ⟨ji15, hji15⟩ : ∃ j_ : Int, (Int.tmod (wrap64 (a2)) (t121.length : Int)) = j_ := ⟨_, rfl⟩
            replace H : (if 0 ≤ (ji15) then (if (ji15) ≤ (t121.length : Int) then ((some (t121.take ((ji15) : Int).toNat : List Int)).bind fun y124 => ((rtu_Get.f y124).bind fun bt128 => ((watchkeeperref01_Open.f y124).bind fun bt133 => (if t120 = true then (if (y124.length : Int) < 4 then (some ((bt128.2.2 != 0) == true)) else (some ((bt128.2.2 != 0) == (!bt133.2)))) else (some false))))) else (none)) else (none)) = some r := by first | (rw [hji15] at H; exact H) | (simp only [hji15] at H ⊢; exact H)
            by_cases c16 : 0 ≤ (ji15)
            · rw [if_pos c16] at H
              have c16b0 := eq_true c16
              have c16b1 : decide (0 ≤ (ji15)) = true := decide_eq_true c16
              clear c16
              by_cases c17 : (ji15) ≤ (t121.length : Int)
              · rw [if_pos c17] at H
                have c17b0 := eq_true c17
                have c17b1 : decide ((ji15) ≤ (t121.length : Int)) = true := decide_eq_true c17
                clear c17
                obtain ⟨y124, hy124⟩ : ∃ y_ : List Int, y_ = (t121.take ((ji15) : Int).toNat) := ⟨_, rfl⟩
                replace H : ((rtu_Get.f y124).bind fun bt128 => ((watchkeeperref01_Open.f y124).bind fun bt133 => (if t120 = true then (if (y124.length : Int) < 4 then (some ((bt128.2.2 != 0) == true)) else (some ((bt128.2.2 != 0) == (!bt133.2)))) else (some false)))) = some r := by first | (rw [hy124]; with_reducible exact H) | (have H2_ := (Option.bind_some _ _).symm.trans H; rw [hy124]; with_reducible exact H2_) | (have H2_ := (Option.bind_some _ _).symm.trans H; with_reducible exact H2_) | with_reducible exact H | (rw [hy124]; exact H) | exact H
                have Ny124 := Aside0.mk hy124
                clear hy124
                replace H := Option.bind_eq_some_iff.mp H
                obtain ⟨⟨t128, t129, t130⟩, A180, H⟩ := H
                replace H : ((watchkeeperref01_Open.f y124).bind fun bt133 => (if t120 = true then (if (y124.length : Int) < 4 then (some ((t130 != 0) == true)) else (some ((t130 != 0) == (!bt133.2)))) else (some false))) = some r := H
                have A18 := Aside0.mk A180
                clear A180
                replace H := Option.bind_eq_some_iff.mp H
                obtain ⟨⟨t133, t134⟩, A190, H⟩ := H
                replace H : (if t120 = true then (if (y124.length : Int) < 4 then (some ((t130 != 0) == true)) else (some ((t130 != 0) == (!t134)))) else (some false)) = some r := H
                have A19 := Aside0.mk A190
                clear A190
                by_cases c20 : t120 = true
                · subst c20
                  have H1 : (if (y124.length : Int) < 4 then (some ((t130 != 0) == true)) else (some ((t130 != 0) == (!t134)))) = some r := by rw [if_pos rfl] at H; exact H
                  clear H
                  have H := H1
                  clear H1
                  by_cases c21 : (y124.length : Int) < 4
                  · rw [if_pos c21] at H
                    have c21b0 : decide ((y124.length : Int) < 4) = true := decide_eq_true c21
                    have c21b1 : decide (y124.length < 4) = true := decide_eq_true (by omega)
                    clear c21
                    obtain rfl := Option.some.inj H
                    obtain ⟨Ao22, co22, eo22⟩ := Kd.R_slice HO_10.out
                    subst eo22
                    have q23 : ((ji15) : Int) ≤ ((t121.length : Int) : Int) := of_decide_eq_true (by first | (with_reducible assumption) | assumption)
                    obtain ⟨i023, hi023, _, hsz23, _⟩ := info_parts info5
                    have hroom23 : t121.length ≤ co22 := (Kd.R_reads' HO_10.out).2.1
                    have hC23 : Kd.C (Kd.int .u8) _ Ao22 t121.length t121 := (Kd.R_reads' HO_10.out).2.2
                    have hcut23 := cut_to (P := Try.prog) 22 5 .i64 Try.underlying22 hi023 Ao22 t121.length co22 (ji15) (of_decide_eq_true (by first | (with_reducible assumption) | assumption)) q23 hroom23
                    have hr23 := Kd.C_take (m := ((ji15) : Int).toNat) hC23 (by omega)
                    have hy23 : y124.length = ((ji15) : Int).toNat := (by rw [Ny124.out, List.length_take]; omega)
                    rw [← Ny124.out] at hr23
                    rw [← hy23] at hcut23
                    have HR127 := Aside0.mk hr23
                    have HC127 := Aside0.mk (show y124.length ≤ co22 from by omega)
                    clear hr23 hC23 hroom23 hi023 hsz23
                    have KY23 := Aside0.mk hy23
                    clear hy23
                    have KL23 := Aside0.mk (show ((ji15) : Int).toNat ≤ t121.length from by omega)
                    replace q23 := eq_true q23
                    go_wp2_with (first | ((with_reducible refine gate_callee (f := 10) rfl ?_); refine goesL_ (some 45) rfl rfl Try.func10 (by kernel_rfl) rfl #[.slice Ao22 y124.length co22] rfl (by (try simp only [List.map_toArray, List.map_cons, List.map_nil]); first | done | rfl | (simp only [List.length_drop, List.length_take]; rfl)) ?_; (with_reducible refine (rtu_Get.calls _ _ y124 t128 t129 t130 _ ?side1 ?side2 A18.out).mono ?_); (case side1 => repeat (first | exact (by repeat (first | (with_reducible exact HR127.out) | (with_reducible refine Kd.C_alloc ?_ _) | (with_reducible refine Kd.C_drewN ?_ _) | (with_reducible refine Kd.C_drew ?_) | exact HR127.out)) | (with_reducible refine Kd.C_alloc ?_ _) | (with_reducible refine Kd.C_drewN ?_ _) | (with_reducible refine Kd.C_drew ?_))); (case side2 => exact HC127.out); rintro e w24 ⟨v131, rfl, ho0, hb⟩; refine ⟨_, rfl, ?_⟩; have n0_ := Aside0.mk (Kd.R_elder' (by (with_reducible repeat (first | apply Kd.R_alloc | apply Kd.R_drewN | apply Kd.R_drew)); exact HO_10.out) (Kd.Q_base ho0) hb); have n1_ := Aside0.mk (Kd.Q_lower (Kd.Q_new' ho0 (Kd.R_lt (by (with_reducible repeat (first | apply Kd.R_alloc | apply Kd.R_drewN | apply Kd.R_drew)); exact HO_10.out))) (below_size (by repeat (first | (with_reducible first | exact HB.out | apply below_alloc | apply pw_below_drewN | apply below_drew1) | exact HB.out)))); have n2_ := Aside0.mk (Kd.C_below (by repeat (first | (with_reducible exact HR127.out) | (with_reducible refine Kd.C_alloc ?_ _) | (with_reducible refine Kd.C_drewN ?_ _) | (with_reducible refine Kd.C_drew ?_) | exact HR127.out)) hb); have n3_ := Aside0.mk (below_step (by repeat (first | (with_reducible first | exact HB.out | apply below_alloc | apply pw_below_drewN | apply below_drew1) | exact HB.out)) hb); clear HO_10; clear HR127; clear HB; have HO_10 := n0_; have HO132 := n1_; have HR127 := n2_; have HB := n3_; clear n0_ n1_ n2_ n3_; (try clear hb); (try clear hb2); (try clear hgn); (try clear hk); (try clear hi); (try clear ho0)) | ((with_reducible refine gate_callee (f := 23) rfl ?_); refine goesL_ (some 51) rfl rfl Try.func23 (by kernel_rfl) rfl #[.slice Ao22 y124.length co22] rfl (by (try simp only [List.map_toArray, List.map_cons, List.map_nil]); first | done | rfl | (simp only [List.length_drop, List.length_take]; rfl)) ?_; (with_reducible refine (watchkeeperref01_Open.calls _ _ y124 t133 t134 _ ?side1 ?side2 A19.out).mono ?_); (case side1 => repeat (first | exact (by repeat (first | (with_reducible exact HR127.out) | (with_reducible refine Kd.C_alloc ?_ _) | (with_reducible refine Kd.C_drewN ?_ _) | (with_reducible refine Kd.C_drew ?_) | exact HR127.out)) | (with_reducible refine Kd.C_alloc ?_ _) | (with_reducible refine Kd.C_drewN ?_ _) | (with_reducible refine Kd.C_drew ?_))); (case side2 => exact HC127.out); rintro e w25 ⟨v135, rfl, ho0, hb⟩; refine ⟨_, rfl, ?_⟩; have n0_ := Aside0.mk (Kd.R_elder' (by (with_reducible repeat (first | apply Kd.R_alloc | apply Kd.R_drewN | apply Kd.R_drew)); exact HO_10.out) (Kd.R_base ho0) hb); have n1_ := Aside0.mk (Kd.Q_elder' (by (with_reducible repeat (first | apply Kd.Q_alloc | apply Kd.Q_drewN | apply Kd.Q_drew)); exact HO132.out) (Kd.R_base ho0) hb); have n2_ := Aside0.mk (Kd.R_lower (Kd.R_new' (Kd.R_new' ho0 (Kd.R_lt (by (with_reducible repeat (first | apply Kd.R_alloc | apply Kd.R_drewN | apply Kd.R_drew)); exact HO_10.out))) (Kd.Q_lt (by (with_reducible repeat (first | apply Kd.Q_alloc | apply Kd.Q_drewN | apply Kd.Q_drew)); exact HO132.out))) (below_size (by repeat (first | (with_reducible first | exact HB.out | apply below_alloc | apply pw_below_drewN | apply below_drew1) | exact HB.out)))); have n3_ := Aside0.mk (Kd.C_below (by repeat (first | (with_reducible exact HR127.out) | (with_reducible refine Kd.C_alloc ?_ _) | (with_reducible refine Kd.C_drewN ?_ _) | (with_reducible refine Kd.C_drew ?_) | exact HR127.out)) hb); have n4_ := Aside0.mk (below_step (by repeat (first | (with_reducible first | exact HB.out | apply below_alloc | apply pw_below_drewN | apply below_drew1) | exact HB.out)) hb); clear HO_10; clear HO132; clear HR127; clear HB; have HO_10 := n0_; have HO132 := n1_; have HO136 := n2_; have HR127 := n3_; have HB := n4_; clear n0_ n1_ n2_ n3_ n4_; (try clear hb); (try clear hb2); (try clear hgn); (try clear hk); (try clear hi); (try clear ho0)))
                    go_ret
                    exact ⟨by first | rfl | (simp [errW_none, errW_some] <;> rfl) | (simp only [← hji15]; first | rfl | (simp [errW_none, errW_some] <;> rfl)) | (simp [*, errW_none, errW_some] <;> rfl), by repeat (first | (with_reducible first | exact HB.out | apply below_alloc | apply pw_below_drewN | apply below_drew1) | exact HB.out)⟩
                  · rw [if_neg c21] at H
                    have c21b0 : decide ((y124.length : Int) < 4) = false := decide_eq_false c21
                    have c21b1 : decide (y124.length < 4) = false := decide_eq_false (by omega)
                    clear c21
                    obtain rfl := Option.some.inj H
                    obtain ⟨Ao26, co26, eo26⟩ := Kd.R_slice HO_10.out
                    subst eo26
                    have q27 : ((ji15) : Int) ≤ ((t121.length : Int) : Int) := of_decide_eq_true (by first | (with_reducible assumption) | assumption)
                    obtain ⟨i027, hi027, _, hsz27, _⟩ := info_parts info5
                    have hroom27 : t121.length ≤ co26 := (Kd.R_reads' HO_10.out).2.1
                    have hC27 : Kd.C (Kd.int .u8) _ Ao26 t121.length t121 := (Kd.R_reads' HO_10.out).2.2
                    have hcut27 := cut_to (P := Try.prog) 22 5 .i64 Try.underlying22 hi027 Ao26 t121.length co26 (ji15) (of_decide_eq_true (by first | (with_reducible assumption) | assumption)) q27 hroom27
                    have hr27 := Kd.C_take (m := ((ji15) : Int).toNat) hC27 (by omega)
                    have hy27 : y124.length = ((ji15) : Int).toNat := (by rw [Ny124.out, List.length_take]; omega)
                    rw [← Ny124.out] at hr27
                    rw [← hy27] at hcut27
                    have HR127 := Aside0.mk hr27
                    have HC127 := Aside0.mk (show y124.length ≤ co26 from by omega)
                    clear hr27 hC27 hroom27 hi027 hsz27
                    have KY27 := Aside0.mk hy27
                    clear hy27
                    have KL27 := Aside0.mk (show ((ji15) : Int).toNat ≤ t121.length from by omega)
                    replace q27 := eq_true q27
                    go_wp2_with (first | ((with_reducible refine gate_callee (f := 10) rfl ?_); refine goesL_ (some 45) rfl rfl Try.func10 (by kernel_rfl) rfl #[.slice Ao26 y124.length co26] rfl (by (try simp only [List.map_toArray, List.map_cons, List.map_nil]); first | done | rfl | (simp only [List.length_drop, List.length_take]; rfl)) ?_; (with_reducible refine (rtu_Get.calls _ _ y124 t128 t129 t130 _ ?side1 ?side2 A18.out).mono ?_); (case side1 => repeat (first | exact (by repeat (first | (with_reducible exact HR127.out) | (with_reducible refine Kd.C_alloc ?_ _) | (with_reducible refine Kd.C_drewN ?_ _) | (with_reducible refine Kd.C_drew ?_) | exact HR127.out)) | (with_reducible refine Kd.C_alloc ?_ _) | (with_reducible refine Kd.C_drewN ?_ _) | (with_reducible refine Kd.C_drew ?_))); (case side2 => exact HC127.out); rintro e w28 ⟨v131, rfl, ho0, hb⟩; refine ⟨_, rfl, ?_⟩; have n0_ := Aside0.mk (Kd.R_elder' (by (with_reducible repeat (first | apply Kd.R_alloc | apply Kd.R_drewN | apply Kd.R_drew)); exact HO_10.out) (Kd.Q_base ho0) hb); have n1_ := Aside0.mk (Kd.Q_lower (Kd.Q_new' ho0 (Kd.R_lt (by (with_reducible repeat (first | apply Kd.R_alloc | apply Kd.R_drewN | apply Kd.R_drew)); exact HO_10.out))) (below_size (by repeat (first | (with_reducible first | exact HB.out | apply below_alloc | apply pw_below_drewN | apply below_drew1) | exact HB.out)))); have n2_ := Aside0.mk (Kd.C_below (by repeat (first | (with_reducible exact HR127.out) | (with_reducible refine Kd.C_alloc ?_ _) | (with_reducible refine Kd.C_drewN ?_ _) | (with_reducible refine Kd.C_drew ?_) | exact HR127.out)) hb); have n3_ := Aside0.mk (below_step (by repeat (first | (with_reducible first | exact HB.out | apply below_alloc | apply pw_below_drewN | apply below_drew1) | exact HB.out)) hb); clear HO_10; clear HR127; clear HB; have HO_10 := n0_; have HO132 := n1_; have HR127 := n2_; have HB := n3_; clear n0_ n1_ n2_ n3_; (try clear hb); (try clear hb2); (try clear hgn); (try clear hk); (try clear hi); (try clear ho0)) | ((with_reducible refine gate_callee (f := 23) rfl ?_); refine goesL_ (some 51) rfl rfl Try.func23 (by kernel_rfl) rfl #[.slice Ao26 y124.length co26] rfl (by (try simp only [List.map_toArray, List.map_cons, List.map_nil]); first | done | rfl | (simp only [List.length_drop, List.length_take]; rfl)) ?_; (with_reducible refine (watchkeeperref01_Open.calls _ _ y124 t133 t134 _ ?side1 ?side2 A19.out).mono ?_); (case side1 => repeat (first | exact (by repeat (first | (with_reducible exact HR127.out) | (with_reducible refine Kd.C_alloc ?_ _) | (with_reducible refine Kd.C_drewN ?_ _) | (with_reducible refine Kd.C_drew ?_) | exact HR127.out)) | (with_reducible refine Kd.C_alloc ?_ _) | (with_reducible refine Kd.C_drewN ?_ _) | (with_reducible refine Kd.C_drew ?_))); (case side2 => exact HC127.out); rintro e w29 ⟨v135, rfl, ho0, hb⟩; refine ⟨_, rfl, ?_⟩; have n0_ := Aside0.mk (Kd.R_elder' (by (with_reducible repeat (first | apply Kd.R_alloc | apply Kd.R_drewN | apply Kd.R_drew)); exact HO_10.out) (Kd.R_base ho0) hb); have n1_ := Aside0.mk (Kd.Q_elder' (by (with_reducible repeat (first | apply Kd.Q_alloc | apply Kd.Q_drewN | apply Kd.Q_drew)); exact HO132.out) (Kd.R_base ho0) hb); have n2_ := Aside0.mk (Kd.R_lower (Kd.R_new' (Kd.R_new' ho0 (Kd.R_lt (by (with_reducible repeat (first | apply Kd.R_alloc | apply Kd.R_drewN | apply Kd.R_drew)); exact HO_10.out))) (Kd.Q_lt (by (with_reducible repeat (first | apply Kd.Q_alloc | apply Kd.Q_drewN | apply Kd.Q_drew)); exact HO132.out))) (below_size (by repeat (first | (with_reducible first | exact HB.out | apply below_alloc | apply pw_below_drewN | apply below_drew1) | exact HB.out)))); have n3_ := Aside0.mk (Kd.C_below (by repeat (first | (with_reducible exact HR127.out) | (with_reducible refine Kd.C_alloc ?_ _) | (with_reducible refine Kd.C_drewN ?_ _) | (with_reducible refine Kd.C_drew ?_) | exact HR127.out)) hb); have n4_ := Aside0.mk (below_step (by repeat (first | (with_reducible first | exact HB.out | apply below_alloc | apply pw_below_drewN | apply below_drew1) | exact HB.out)) hb); clear HO_10; clear HO132; clear HR127; clear HB; have HO_10 := n0_; have HO132 := n1_; have HO136 := n2_; have HR127 := n3_; have HB := n4_; clear n0_ n1_ n2_ n3_ n4_; (try clear hb); (try clear hb2); (try clear hgn); (try clear hk); (try clear hi); (try clear ho0)))
                    go_ret
                    exact ⟨by first | rfl | (simp [errW_none, errW_some] <;> rfl) | (simp only [← hji15]; first | rfl | (simp [errW_none, errW_some] <;> rfl)) | (simp [*, errW_none, errW_some] <;> rfl), by repeat (first | (with_reducible first | exact HB.out | apply below_alloc | apply pw_below_drewN | apply below_drew1) | exact HB.out)⟩
                · replace c20 := Bool.eq_false_iff.mpr c20
                  subst c20
                  have H1 : (some false) = some r := by rw [if_neg (show ¬ (false = true) by decide)] at H; exact H
                  clear H
                  have H := H1
                  clear H1
                  obtain rfl := Option.some.inj H
                  obtain ⟨Ao30, co30, eo30⟩ := Kd.R_slice HO_10.out
                  subst eo30
                  have q31 : ((ji15) : Int) ≤ ((t121.length : Int) : Int) := of_decide_eq_true (by first | (with_reducible assumption) | assumption)
                  obtain ⟨i031, hi031, _, hsz31, _⟩ := info_parts info5
                  have hroom31 : t121.length ≤ co30 := (Kd.R_reads' HO_10.out).2.1
                  have hC31 : Kd.C (Kd.int .u8) _ Ao30 t121.length t121 := (Kd.R_reads' HO_10.out).2.2
                  have hcut31 := cut_to (P := Try.prog) 22 5 .i64 Try.underlying22 hi031 Ao30 t121.length co30 (ji15) (of_decide_eq_true (by first | (with_reducible assumption) | assumption)) q31 hroom31
                  have hr31 := Kd.C_take (m := ((ji15) : Int).toNat) hC31 (by omega)
                  have hy31 : y124.length = ((ji15) : Int).toNat := (by rw [Ny124.out, List.length_take]; omega)
                  rw [← Ny124.out] at hr31
                  rw [← hy31] at hcut31
                  have HR127 := Aside0.mk hr31
                  have HC127 := Aside0.mk (show y124.length ≤ co30 from by omega)
                  clear hr31 hC31 hroom31 hi031 hsz31
                  have KY31 := Aside0.mk hy31
                  clear hy31
                  have KL31 := Aside0.mk (show ((ji15) : Int).toNat ≤ t121.length from by omega)
                  replace q31 := eq_true q31
                  go_wp2_with (first | ((with_reducible refine gate_callee (f := 10) rfl ?_); refine goesL_ (some 45) rfl rfl Try.func10 (by kernel_rfl) rfl #[.slice Ao30 y124.length co30] rfl (by (try simp only [List.map_toArray, List.map_cons, List.map_nil]); first | done | rfl | (simp only [List.length_drop, List.length_take]; rfl)) ?_; (with_reducible refine (rtu_Get.calls _ _ y124 t128 t129 t130 _ ?side1 ?side2 A18.out).mono ?_); (case side1 => repeat (first | exact (by repeat (first | (with_reducible exact HR127.out) | (with_reducible refine Kd.C_alloc ?_ _) | (with_reducible refine Kd.C_drewN ?_ _) | (with_reducible refine Kd.C_drew ?_) | exact HR127.out)) | (with_reducible refine Kd.C_alloc ?_ _) | (with_reducible refine Kd.C_drewN ?_ _) | (with_reducible refine Kd.C_drew ?_))); (case side2 => exact HC127.out); rintro e w32 ⟨v131, rfl, ho0, hb⟩; refine ⟨_, rfl, ?_⟩; have n0_ := Aside0.mk (Kd.R_elder' (by (with_reducible repeat (first | apply Kd.R_alloc | apply Kd.R_drewN | apply Kd.R_drew)); exact HO_10.out) (Kd.Q_base ho0) hb); have n1_ := Aside0.mk (Kd.Q_lower (Kd.Q_new' ho0 (Kd.R_lt (by (with_reducible repeat (first | apply Kd.R_alloc | apply Kd.R_drewN | apply Kd.R_drew)); exact HO_10.out))) (below_size (by repeat (first | (with_reducible first | exact HB.out | apply below_alloc | apply pw_below_drewN | apply below_drew1) | exact HB.out)))); have n2_ := Aside0.mk (Kd.C_below (by repeat (first | (with_reducible exact HR127.out) | (with_reducible refine Kd.C_alloc ?_ _) | (with_reducible refine Kd.C_drewN ?_ _) | (with_reducible refine Kd.C_drew ?_) | exact HR127.out)) hb); have n3_ := Aside0.mk (below_step (by repeat (first | (with_reducible first | exact HB.out | apply below_alloc | apply pw_below_drewN | apply below_drew1) | exact HB.out)) hb); clear HO_10; clear HR127; clear HB; have HO_10 := n0_; have HO132 := n1_; have HR127 := n2_; have HB := n3_; clear n0_ n1_ n2_ n3_; (try clear hb); (try clear hb2); (try clear hgn); (try clear hk); (try clear hi); (try clear ho0)) | ((with_reducible refine gate_callee (f := 23) rfl ?_); refine goesL_ (some 51) rfl rfl Try.func23 (by kernel_rfl) rfl #[.slice Ao30 y124.length co30] rfl (by (try simp only [List.map_toArray, List.map_cons, List.map_nil]); first | done | rfl | (simp only [List.length_drop, List.length_take]; rfl)) ?_; (with_reducible refine (watchkeeperref01_Open.calls _ _ y124 t133 t134 _ ?side1 ?side2 A19.out).mono ?_); (case side1 => repeat (first | exact (by repeat (first | (with_reducible exact HR127.out) | (with_reducible refine Kd.C_alloc ?_ _) | (with_reducible refine Kd.C_drewN ?_ _) | (with_reducible refine Kd.C_drew ?_) | exact HR127.out)) | (with_reducible refine Kd.C_alloc ?_ _) | (with_reducible refine Kd.C_drewN ?_ _) | (with_reducible refine Kd.C_drew ?_))); (case side2 => exact HC127.out); rintro e w33 ⟨v135, rfl, ho0, hb⟩; refine ⟨_, rfl, ?_⟩; have n0_ := Aside0.mk (Kd.R_elder' (by (with_reducible repeat (first | apply Kd.R_alloc | apply Kd.R_drewN | apply Kd.R_drew)); exact HO_10.out) (Kd.R_base ho0) hb); have n1_ := Aside0.mk (Kd.Q_elder' (by (with_reducible repeat (first | apply Kd.Q_alloc | apply Kd.Q_drewN | apply Kd.Q_drew)); exact HO132.out) (Kd.R_base ho0) hb); have n2_ := Aside0.mk (Kd.R_lower (Kd.R_new' (Kd.R_new' ho0 (Kd.R_lt (by (with_reducible repeat (first | apply Kd.R_alloc | apply Kd.R_drewN | apply Kd.R_drew)); exact HO_10.out))) (Kd.Q_lt (by (with_reducible repeat (first | apply Kd.Q_alloc | apply Kd.Q_drewN | apply Kd.Q_drew)); exact HO132.out))) (below_size (by repeat (first | (with_reducible first | exact HB.out | apply below_alloc | apply pw_below_drewN | apply below_drew1) | exact HB.out)))); have n3_ := Aside0.mk (Kd.C_below (by repeat (first | (with_reducible exact HR127.out) | (with_reducible refine Kd.C_alloc ?_ _) | (with_reducible refine Kd.C_drewN ?_ _) | (with_reducible refine Kd.C_drew ?_) | exact HR127.out)) hb); have n4_ := Aside0.mk (below_step (by repeat (first | (with_reducible first | exact HB.out | apply below_alloc | apply pw_below_drewN | apply below_drew1) | exact HB.out)) hb); clear HO_10; clear HO132; clear HR127; clear HB; have HO_10 := n0_; have HO132 := n1_; have HO136 := n2_; have HR127 := n3_; have HB := n4_; clear n0_ n1_ n2_ n3_ n4_; (try clear hb); (try clear hb2); (try clear hgn); (try clear hk); (try clear hi); (try clear ho0)))
                  go_ret
                  exact ⟨by first | rfl | (simp [errW_none, errW_some] <;> rfl) | (simp only [← hji15]; first | rfl | (simp [errW_none, errW_some] <;> rfl)) | (simp [*, errW_none, errW_some] <;> rfl), by repeat (first | (with_reducible first | exact HB.out | apply below_alloc | apply pw_below_drewN | apply below_drew1) | exact HB.out)⟩
              · rw [if_neg c17] at H
                exact absurd H (by simp)
            · rw [if_neg c16] at H
              exact absurd H (by simp)
        · replace c13 := Bool.eq_false_iff.mpr c13
          subst c13
          have H1 : ((some (([] : List Int) : List Int)).bind fun y137 => (if y137.length + t121.length < 140737488355328 then ((some (y137 ++ t121 : List Int)).bind fun y140 => (if (wrap64 (8 * (y140.length : Int))) = 0 then (none) else (if 0 ≤ (wrap64 (Int.tdiv (Int.tmod (wrap64 (a2)) (wrap64 (8 * (y140.length : Int)))) 8)) then (if (wrap64 (Int.tdiv (Int.tmod (wrap64 (a2)) (wrap64 (8 * (y140.length : Int)))) 8)) < (y140.length : Int) then (if 0 ≤ (Int.tmod (Int.tmod (wrap64 (a2)) (wrap64 (8 * (y140.length : Int)))) 8) then ((rtu_Get.f (y140.set ((wrap64 (Int.tdiv (Int.tmod (wrap64 (a2)) (wrap64 (8 * (y140.length : Int)))) 8)) : Int).toNat (Go.bits .xor .u8 (rd y140 (wrap64 (Int.tdiv (Int.tmod (wrap64 (a2)) (wrap64 (8 * (y140.length : Int)))) 8))) (shl .u8 1 (Int.tmod (Int.tmod (wrap64 (a2)) (wrap64 (8 * (y140.length : Int)))) 8))))).bind fun bt145 => (if t120 = true then (some (bt145.2.2 == 23)) else (some false))) else (none)) else (none)) else (none)))) else (none))) = some r := by rw [if_neg (show ¬ (false = true) by decide)] at H; exact H
          clear H
          have H := H1
          clear H1
          obtain ⟨y137, hy137⟩ : ∃ y_ : List Int, y_ = (([] : List Int)) := ⟨_, rfl⟩
          replace H : (if y137.length + t121.length < 140737488355328 then ((some (y137 ++ t121 : List Int)).bind fun y140 => (if (wrap64 (8 * (y140.length : Int))) = 0 then (none) else (if 0 ≤ (wrap64 (Int.tdiv (Int.tmod (wrap64 (a2)) (wrap64 (8 * (y140.length : Int)))) 8)) then (if (wrap64 (Int.tdiv (Int.tmod (wrap64 (a2)) (wrap64 (8 * (y140.length : Int)))) 8)) < (y140.length : Int) then (if 0 ≤ (Int.tmod (Int.tmod (wrap64 (a2)) (wrap64 (8 * (y140.length : Int)))) 8) then ((rtu_Get.f (y140.set ((wrap64 (Int.tdiv (Int.tmod (wrap64 (a2)) (wrap64 (8 * (y140.length : Int)))) 8)) : Int).toNat (Go.bits .xor .u8 (rd y140 (wrap64 (Int.tdiv (Int.tmod (wrap64 (a2)) (wrap64 (8 * (y140.length : Int)))) 8))) (shl .u8 1 (Int.tmod (Int.tmod (wrap64 (a2)) (wrap64 (8 * (y140.length : Int)))) 8))))).bind fun bt145 => (if t120 = true then (some (bt145.2.2 == 23)) else (some false))) else (none)) else (none)) else (none)))) else (none)) = some r := by first | (rw [hy137]; with_reducible exact H) | (have H2_ := (Option.bind_some _ _).symm.trans H; rw [hy137]; with_reducible exact H2_) | (have H2_ := (Option.bind_some _ _).symm.trans H; with_reducible exact H2_) | with_reducible exact H | (rw [hy137]; exact H) | exact H
          have Ny137 := Aside0.mk hy137
          clear hy137
          by_cases c34 : y137.length + t121.length < 140737488355328
          · rw [if_pos c34] at H
            have LMc34 := Aside0.mk c34
            clear c34
            obtain ⟨y140, hy140⟩ : ∃ y_ : List Int, y_ = (y137 ++ t121) := ⟨_, rfl⟩
            replace H : (if (wrap64 (8 * (y140.length : Int))) = 0 then (none) else (if 0 ≤ (wrap64 (Int.tdiv (Int.tmod (wrap64 (a2)) (wrap64 (8 * (y140.length : Int)))) 8)) then (if (wrap64 (Int.tdiv (Int.tmod (wrap64 (a2)) (wrap64 (8 * (y140.length : Int)))) 8)) < (y140.length : Int) then (if 0 ≤ (Int.tmod (Int.tmod (wrap64 (a2)) (wrap64 (8 * (y140.length : Int)))) 8) then ((rtu_Get.f (y140.set ((wrap64 (Int.tdiv (Int.tmod (wrap64 (a2)) (wrap64 (8 * (y140.length : Int)))) 8)) : Int).toNat (Go.bits .xor .u8 (rd y140 (wrap64 (Int.tdiv (Int.tmod (wrap64 (a2)) (wrap64 (8 * (y140.length : Int)))) 8))) (shl .u8 1 (Int.tmod (Int.tmod (wrap64 (a2)) (wrap64 (8 * (y140.length : Int)))) 8))))).bind fun bt145 => (if t120 = true then (some (bt145.2.2 == 23)) else (some false))) else (none)) else (none)) else (none))) = some r := by first | (rw [hy140]; with_reducible exact H) | (have H2_ := (Option.bind_some _ _).symm.trans H; rw [hy140]; with_reducible exact H2_) | (have H2_ := (Option.bind_some _ _).symm.trans H; with_reducible exact H2_) | with_reducible exact H | (rw [hy140]; exact H) | exact H
            have Ny140 := Aside0.mk hy140
            clear hy140
            by_cases c35 : (wrap64 (8 * (y140.length : Int))) = 0
            · rw [if_pos c35] at H
              exact absurd H (by simp)
            · rw [if_neg c35] at H
              have c35b0 : ((wrap64 (8 * (y140.length : Int))) == 0) = false := beq_eq_false_iff_ne.mpr c35
              have c35b1 : ((wrap64 (8 * (y140.length : Int))) != 0) = true := bne_iff_ne.mpr c35
              obtain ⟨ji36, hji36⟩ : ∃ j_ : Int, (wrap64 (Int.tdiv (Int.tmod (wrap64 (a2)) (wrap64 (8 * (y140.length : Int)))) 8)) = j_ := ⟨_, rfl⟩
              replace H : (if 0 ≤ (ji36) then (if (ji36) < (y140.length : Int) then (if 0 ≤ (Int.tmod (Int.tmod (wrap64 (a2)) (wrap64 (8 * (y140.length : Int)))) 8) then ((rtu_Get.f (y140.set ((ji36) : Int).toNat (Go.bits .xor .u8 (rd y140 (ji36)) (shl .u8 1 (Int.tmod (Int.tmod (wrap64 (a2)) (wrap64 (8 * (y140.length : Int)))) 8))))).bind fun bt145 => (if t120 = true then (some (bt145.2.2 == 23)) else (some false))) else (none)) else (none)) else (none)) = some r := by first | (rw [hji36] at H; exact H) | (simp only [hji36] at H ⊢; exact H)
              have hji36w : (IntKind.i64.wrap (Int.tdiv (Int.tmod (wrap64 (a2)) (wrap64 (8 * (y140.length : Int)))) 8)) = ji36 := (i64_w _).trans hji36
              by_cases c37 : 0 ≤ (ji36)
              · rw [if_pos c37] at H
                have c37b0 : decide (0 ≤ (ji36)) = true := decide_eq_true c37
                clear c37
                by_cases c38 : (ji36) < (y140.length : Int)
                · rw [if_pos c38] at H
                  have c38b0 : decide ((ji36) < (y140.length : Int)) = true := decide_eq_true c38
                  clear c38
                  obtain ⟨ji39, hji39⟩ : ∃ j_ : Int, (Int.tmod (Int.tmod (wrap64 (a2)) (wrap64 (8 * (y140.length : Int)))) 8) = j_ := ⟨_, rfl⟩
                  replace H : (if 0 ≤ (ji39) then ((rtu_Get.f (y140.set ((ji36) : Int).toNat (Go.bits .xor .u8 (rd y140 (ji36)) (shl .u8 1 (ji39))))).bind fun bt145 => (if t120 = true then (some (bt145.2.2 == 23)) else (some false))) else (none)) = some r := by first | (rw [hji39] at H; exact H) | (simp only [hji39] at H ⊢; exact H)
                  by_cases c40 : 0 ≤ (ji39)
                  · rw [if_pos c40] at H
                    have c40b0 := eq_true c40
                    have c40b1 : decide (0 ≤ (ji39)) = true := decide_eq_true c40
                    clear c40
                    obtain ⟨ji41, hji41⟩ : ∃ j_ : Int, (shl .u8 1 (ji39)) = j_ := ⟨_, rfl⟩
                    replace H : ((rtu_Get.f (y140.set ((ji36) : Int).toNat (Go.bits .xor .u8 (rd y140 (ji36)) (ji41)))).bind fun bt145 => (if t120 = true then (some (bt145.2.2 == 23)) else (some false))) = some r := by first | (rw [hji41] at H; exact H) | (simp only [hji41] at H ⊢; exact H)
                    have hji41_ : (IntKind.u8.wrap (1 * 2 ^ min (ji39).toNat 8)) = ji41 := hji41
                    have hji41z : (ji39) ≤ 8 → (IntKind.u8.wrap (1 * 2 ^ (ji39).toNat)) = ji41 := shl_small hji41
                    have hji41u : (IntKind.u8.wrap (2 ^ min (ji39).toNat 8)) = ji41 := by have h_ := hji41_; rw [Int.one_mul] at h_; exact h_
                    have hji41v : (ji39) ≤ 8 → (IntKind.u8.wrap (2 ^ (ji39).toNat)) = ji41 := fun hle_ => by have h_ := hji41z hle_; rw [Int.one_mul] at h_; exact h_
                    obtain ⟨y144, hy144⟩ : ∃ y_ : List Int, y_ = (y140.set ((ji36) : Int).toNat (Go.bits .xor .u8 (rd y140 (ji36)) (ji41))) := ⟨_, rfl⟩
                    replace H : ((rtu_Get.f y144).bind fun bt145 => (if t120 = true then (some (bt145.2.2 == 23)) else (some false))) = some r := by first | (rw [hy144]; with_reducible exact H) | (have H2_ := (Option.bind_some _ _).symm.trans H; rw [hy144]; with_reducible exact H2_) | (have H2_ := (Option.bind_some _ _).symm.trans H; with_reducible exact H2_) | with_reducible exact H | (rw [hy144]; exact H) | exact H
                    have Ny144 := Aside0.mk hy144
                    clear hy144
                    replace H := Option.bind_eq_some_iff.mp H
                    obtain ⟨⟨t145, t146, t147⟩, A430, H⟩ := H
                    replace H : (if t120 = true then (some (t147 == 23)) else (some false)) = some r := H
                    have A43 := Aside0.mk A430
                    clear A430
                    by_cases c44 : t120 = true
                    · subst c44
                      have H1 : (some (t147 == 23)) = some r := by rw [if_pos rfl] at H; exact H
                      clear H
                      have H := H1
                      clear H1
                      obtain rfl := Option.some.inj H
                      try go_wp2_with (first | ((with_reducible refine gate_dst (N := 67) rfl ?_); (try (refine gate_guard (by rfl) ?_; dsimp only)); refine Kd.R_lit (Kd.int .u8) _ 5 ?hg (N := 67) ?hd (xs := ([] : List Int)) (inner := []) (ok := fun _ => True) (okp := fun _ => True) ?hr ?hp (fun _ hk => hk) trivial (Below.refl _ _) (Nat.le_refl _) (by simp) ?_; (case hd => rfl); (case hg => rfl); (case hr => first | (go_simp; done) | (go_simp; rfl)); (case hp => exact (Reps.none _ _)); intro v138 w45 ho46 hb hg_ hnew_; clear hg_ hnew_; (first | rw [← Ny137.out] at ho46 | (simp only [Int.reduceToNat] at ho46; rw [← Ny137.out] at ho46)); have n0_ := Aside0.mk (Kd.R_elder' (by (with_reducible repeat (first | apply Kd.R_alloc | apply Kd.R_drewN | apply Kd.R_drew)); exact HO_10.out) (Kd.R_base ho46) hb); have n1_ := Aside0.mk (Kd.R_lower (Kd.R_new' ho46 (Kd.R_lt (by (with_reducible repeat (first | apply Kd.R_alloc | apply Kd.R_drewN | apply Kd.R_drew)); exact HO_10.out))) (below_size (by repeat (first | (with_reducible first | exact HB.out | apply below_alloc | apply pw_below_drewN | apply below_drew1) | exact HB.out)))); have n2_ := Aside0.mk (below_step (by repeat (first | (with_reducible first | exact HB.out | apply below_alloc | apply pw_below_drewN | apply below_drew1) | exact HB.out)) hb); clear HO_10; clear HB; have HO_10 := n0_; have HO139 := n1_; have HB := n2_; clear n0_ n1_ n2_; clear hb ho46; obtain ⟨Ao48, co48, eo48⟩ := Kd.R_slice HO_10.out; subst eo48) | ((with_reducible refine gate_builtin (b := .append) (xs := #[.tmp 67, .tmp 68]) rfl ?_); (try (refine gate_guard (by rfl) ?_; dsimp only)); at_builtin; refine Kd.R_append_rows (Kd.int .u8) (w0 := w) w.heap.size rfl (.tmp 67) (.tmp 68) 22 5 (.int .u8 0) 1 rfl Try.underlying22 info5 rfl (by decide) (by omega) v138 y137 t121 _ _ _ (fun k_ => some k_ ≠ (.slice Ao48 t121.length co48 : Value).ownBlock) (fun _ => False) rfl rfl ?aO ?aR (fun _ _ h => h) (fun _ h => h.elim) ?aF ?aB ?aS ?aL ?_; (case aR => repeat (first | exact (Kd.R_reads' HO_10.out).2.2 | (with_reducible refine Kd.C_alloc ?_ _) | (with_reducible refine Kd.C_drewN ?_ _) | (with_reducible refine Kd.C_drew ?_))); (case aB => exact (by repeat (first | (with_reducible first | exact HB.out | apply below_alloc | apply pw_below_drewN | apply below_drew1) | exact HB.out))); (case aF => exact (fun k_ hk => Kd.fresh' (Kd.R_lt (by (with_reducible repeat (first | apply Kd.R_alloc | apply Kd.R_drewN | apply Kd.R_drew)); exact HO_10.out)) k_ hk)); (case aO => exact (by (with_reducible repeat (first | apply Kd.R_alloc | apply Kd.R_drewN | apply Kd.R_drew)); exact Kd.R_mono HO139.out (fun _ hk => hk.2))); (case aS => exact (below_size (by repeat (first | (with_reducible first | exact HB.out | apply below_alloc | apply pw_below_drewN | apply below_drew1) | exact HB.out)))); (case aL => have := LMc34.out; omega); intro v141 w47 ho hb hg hat; rw [← Ny140.out] at ho; have n0_ := Aside0.mk (Kd.R_after (ok := (fun _ => True)) (by (with_reducible repeat (first | apply Kd.R_alloc | apply Kd.R_drewN | apply Kd.R_drew)); exact HO_10.out) hg hat); have n1_ := Aside0.mk (hb); have n2_ := Aside0.mk (ho); clear HO_10; clear HB; clear HO139; have HO_10 := n0_; have HB := n1_; have HO142 := n2_; clear n0_ n1_ n2_; clear ho hb hg hat; obtain ⟨Ao49, co49, eo49⟩ := Kd.R_slice HO142.out; subst eo49))
                      have n0_ := Aside0.mk (Kd.R_drew HO_10.out)
                      have n1_ := Aside0.mk (Kd.R_drew HO142.out)
                      have n2_ := Aside0.mk (below_drew1 HB.out)
                      clear HO_10
                      clear HO142
                      clear HB
                      have HO_10 := n0_
                      have HO142 := n1_
                      have HB := n2_
                      clear n0_ n1_ n2_
                      have p143 : 0 ≤ ((ji36) : Int) := of_decide_eq_true (by first | (with_reducible assumption) | assumption)
                      have q143 : (ji36) < (y140.length : Int) := of_decide_eq_true (by first | (with_reducible assumption) | assumption)
                      obtain ⟨ad143, e143, hx143_0⟩ := Kd.at_int (Kd.R_reads' HO142.out).2.2 (ji36) p143 q143
                      cases e143
                      replace p143 := eq_true p143
                      replace q143 := eq_true q143
                      have p42 : 0 ≤ ((ji36) : Int) := of_decide_eq_true (by first | (with_reducible assumption) | assumption)
                      have q42 : ((ji36) : Int) < ((y140.length : Int) : Int) := of_decide_eq_true (by first | (with_reducible assumption) | assumption)
                      obtain ⟨go42, co42, eo42, gb42, gl42, cl42, HG42⟩ := Kd.R_form HO142.out (by omega)
                      (first | cases eo42 | (injection eo42 with ea_ en_ ec_; (first | subst ea_ | (injection ea_ with ea_; subst ea_)); subst ec_; clear en_))
                      have GB42 := Aside0.mk gb42
                      have GG42 := Aside0.mk HG42
                      clear gb42 gl42 HG42
                      (first | simp only [add_plain] at hx143_0 | skip)
                      obtain ⟨hx42_0, hf42_0⟩ := Kd.R_celln 0 HO142.out ((ji36) : Int) p42 q42
                      replace p42 := eq_true p42
                      replace q42 := eq_true q42
                      have HP51 := Kd.R_putn HO142.out ((ji36) : Int) (Go.bits .xor .u8 (rd y140 (ji36)) (ji41))
                      rw [← Ny144.out] at HP51
                      have HQ51 := Aside0.mk HP51
                      clear HP51
                      refine start_ (n := 14) (S := fun w' => w'.cell? ⟨go42, ((ji36)).toNat, none⟩ = some (.int .u8 (rd y140 (ji36)))) (ds := [13]) #[false, false, false, false, false, false, false, false, false, false, false, false, false, false] (by kernel_rfl) rfl rfl (hx143_0) (fun hHeld => ?_); refine with_tabW watchkeeperlaw02_RtuSpoilt.tab12 watchkeeperlaw02_RtuSpoilt.bits12 (fun HT_ HW_ => ?_)
                      generalize w47.drew = w50 at HO_10 HO142 HB GG42 HQ51 hf42_0 hx143_0 hx42_0 hHeld ⊢
                      refine pure_ (i := 0) (N := some 76) (v := ?_) (a' := ?_) #[true, false, false, false, false, false, false, false, false, false, false, false, false, false] rfl rfl (any_of HT_.out (by kernel_rfl)) (fun _ _ _ h => h) (Or.inl ⟨by rfl, ?_⟩) ?_ ?_
                      rotate_left
                      · intro w'
                        go_simp
                        with_reducible rfl
                      rotate_left
                      · simp only [Act.put, List.setIfInBounds_toArray, List.set_cons_zero, List.set_cons_succ, i64_w, i32_w]
                        rfl
                      refine pure_ (i := 1) (N := some 77) (v := ?_) (a' := ?_) #[true, true, false, false, false, false, false, false, false, false, false, false, false, false] rfl rfl (any_of HT_.out (by kernel_rfl)) (fun _ _ _ h => h) (Or.inl ⟨by rfl, ?_⟩) ?_ ?_
                      rotate_left
                      · intro w'
                        go_simp
                        with_reducible rfl
                      rotate_left
                      · simp only [Act.put, List.setIfInBounds_toArray, List.set_cons_zero, List.set_cons_succ, i64_w, i32_w]
                        rfl
                      refine pure_ (i := 2) (N := some 78) (v := ?_) (a' := ?_) #[true, true, true, false, false, false, false, false, false, false, false, false, false, false] rfl rfl (any_of HT_.out (by kernel_rfl)) (fun _ _ _ h => h) (Or.inl ⟨by rfl, ?_⟩) ?_ ?_
                      rotate_left
                      · intro w'
                        go_simp
                        with_reducible rfl
                      rotate_left
                      · simp only [Act.put, List.setIfInBounds_toArray, List.set_cons_zero, List.set_cons_succ, i64_w, i32_w]
                        rfl
                      refine pure_ (i := 3) (N := some 79) (v := ?_) (a' := ?_) #[true, true, true, true, false, false, false, false, false, false, false, false, false, false] rfl rfl (any_of HT_.out (by kernel_rfl)) (fun _ _ _ h => h) (Or.inl ⟨by rfl, ?_⟩) ?_ ?_
                      rotate_left
                      · intro w'
                        go_simp
                        with_reducible rfl
                      rotate_left
                      · simp only [Act.put, List.setIfInBounds_toArray, List.set_cons_zero, List.set_cons_succ, i64_w, i32_w]
                        rfl
                      refine pure_ (i := 4) (N := some 80) (v := ?_) (a' := ?_) #[true, true, true, true, true, false, false, false, false, false, false, false, false, false] rfl rfl (any_of HT_.out (by kernel_rfl)) (fun _ _ _ h => h) (Or.inl ⟨by rfl, ?_⟩) ?_ ?_
                      rotate_left
                      · intro w'
                        go_simp
                        with_reducible rfl
                      rotate_left
                      · simp only [Act.put, List.setIfInBounds_toArray, List.set_cons_zero, List.set_cons_succ, i64_w, i32_w]
                        rfl
                      refine pure_ (i := 5) (N := some 81) (v := ?_) (a' := ?_) #[true, true, true, true, true, true, false, false, false, false, false, false, false, false] rfl rfl (any_of HT_.out (by kernel_rfl)) (fun _ _ _ h => h) (Or.inl ⟨by rfl, ?_⟩) ?_ ?_
                      rotate_left
                      · intro w'
                        go_simp
                        with_reducible rfl
                      rotate_left
                      · simp only [Act.put, List.setIfInBounds_toArray, List.set_cons_zero, List.set_cons_succ, i64_w, i32_w]
                        rfl
                      refine pure_ (i := 6) (N := some 82) (v := ?_) (a' := ?_) #[true, true, true, true, true, true, true, false, false, false, false, false, false, false] rfl rfl (any_of HT_.out (by kernel_rfl)) (fun _ _ _ h => h) (Or.inl ⟨by rfl, ?_⟩) ?_ ?_
                      rotate_left
                      · intro w'
                        go_simp
                        with_reducible rfl
                      rotate_left
                      · simp only [Act.put, List.setIfInBounds_toArray, List.set_cons_zero, List.set_cons_succ, i64_w, i32_w]
                        rfl
                      refine pure_ (i := 8) (N := some 84) (v := ?_) (a' := ?_) #[true, true, true, true, true, true, true, false, true, false, false, false, false, false] rfl rfl (any_of HT_.out (by kernel_rfl)) (fun _ _ _ h => h) (Or.inl ⟨by rfl, ?_⟩) ?_ ?_
                      rotate_left
                      · intro w'
                        go_simp
                        with_reducible rfl
                      rotate_left
                      · simp only [Act.put, List.setIfInBounds_toArray, List.set_cons_zero, List.set_cons_succ, i64_w, i32_w]
                        rfl
                      refine pure_ (i := 9) (N := some 85) (v := ?_) (a' := ?_) #[true, true, true, true, true, true, true, false, true, true, false, false, false, false] rfl rfl (any_of HT_.out (by kernel_rfl)) (fun _ _ _ h => h) (Or.inl ⟨by rfl, ?_⟩) ?_ ?_
                      rotate_left
                      · intro w'
                        go_simp
                        with_reducible rfl
                      rotate_left
                      · simp only [Act.put, List.setIfInBounds_toArray, List.set_cons_zero, List.set_cons_succ, i64_w, i32_w]
                        rfl
                      refine pure_ (i := 10) (N := some 86) (v := ?_) (a' := ?_) #[true, true, true, true, true, true, true, false, true, true, true, false, false, false] rfl rfl (any_of HT_.out (by kernel_rfl)) (fun _ _ _ h => h) (Or.inl ⟨by rfl, ?_⟩) ?_ ?_
                      rotate_left
                      · intro w'
                        go_simp
                        with_reducible rfl
                      rotate_left
                      · simp only [Act.put, List.setIfInBounds_toArray, List.set_cons_zero, List.set_cons_succ, i64_w, i32_w]
                        rfl
                      refine take_ (i := 7) (N := some 83) (v := ?_) (a' := ?_) #[true, true, true, true, true, true, true, true, true, true, true, false, false, false] rfl rfl (take_ofW HT_.out HW_.out (by kernel_rfl)) (fun _ _ _ h => h) (Or.inl ⟨by rfl, ?_⟩) hHeld ?_ ?_
                      rotate_left
                      · intro w' s0
                        go_simp
                        with_reducible rfl
                      rotate_left
                      · simp only [Act.put, List.setIfInBounds_toArray, List.set_cons_zero, List.set_cons_succ, i64_w, i32_w]
                        rfl
                      refine pure_ (i := 11) (N := some 87) (v := ?_) (a' := ?_) #[true, true, true, true, true, true, true, true, true, true, true, true, false, false] rfl rfl (any_of HT_.out (by kernel_rfl)) (fun _ _ _ h => h) (Or.inl ⟨by rfl, ?_⟩) ?_ ?_
                      rotate_left
                      · intro w'
                        go_simp
                        with_reducible rfl
                      rotate_left
                      · simp only [Act.put, List.setIfInBounds_toArray, List.set_cons_zero, List.set_cons_succ, i64_w, i32_w]
                        rfl
                      refine pure_ (i := 12) (N := some 88) (v := ?_) (a' := ?_) #[true, true, true, true, true, true, true, true, true, true, true, true, true, false] rfl rfl (any_of HT_.out (by kernel_rfl)) (fun _ _ _ h => h) (Or.inl ⟨by rfl, ?_⟩) ?_ ?_
                      rotate_left
                      · intro w'
                        go_simp
                        with_reducible rfl
                      rotate_left
                      · simp only [Act.put, List.setIfInBounds_toArray, List.set_cons_zero, List.set_cons_succ, i64_w, i32_w]
                        rfl
                      refine last_ (i := 13) (N := none) #[true, true, true, true, true, true, true, true, true, true, true, true, true, true] rfl rfl (one_of HT_.out (by kernel_rfl)) (by decide) (fun K hK => ?_)
                      refine skip_ (w1 := ?_) (by rfl) rfl ?_ ?_
                      rotate_left
                      · go_simp
                        rfl
                      refine hK.out _ _ ?_
                      clear hK K
                      refine done_ (done_of HT_.out (by kernel_rfl)) ?_
                      try go_wp2_with (first | ((with_reducible refine gate_callee (f := 10) rfl ?_); refine goesL_ (some 91) rfl rfl Try.func10 (by kernel_rfl) rfl #[.slice (some ⟨go42, 0, none⟩) y144.length co49] rfl (by (try simp only [List.map_toArray, List.map_cons, List.map_nil]); first | done | (rw [show y144.length = y140.length from (Kd.R_reads' HQ51.out).1.symm] <;> rfl) | rfl | (simp only [List.length_drop, List.length_take]; rfl)) ?_; (with_reducible refine (rtu_Get.calls _ _ y144 t145 t146 t147 _ ?side1 ?side2 A43.out).mono ?_); (case side1 => refine (Kd.R_reads' (e := 5) (base := w.heap.size) (ok := fun k_ => some k_ ≠ (.slice Ao48 t121.length co48 : Value).ownBlock) (n := y140.length) (c := co49) ?_).2.2; exact (by (with_reducible repeat (first | apply Kd.R_alloc | apply Kd.R_drewN | apply Kd.R_drew)); exact HQ51.out)); (case side2 => rw [show y144.length = y140.length from (Kd.R_reads' HQ51.out).1.symm]; exact (Kd.R_reads' HO142.out).2.1); rintro e w52 ⟨v148, rfl, ho0, hb⟩; refine ⟨_, rfl, ?_⟩; have n0_ := Aside0.mk (Kd.R_elder' (by (with_reducible repeat (first | apply Kd.R_alloc | apply Kd.R_drewN | apply Kd.R_drew)); exact (Kd.R_mono (Kd.R_far (p := ⟨go42, ((ji36) : Int).toNat, none⟩) (Kd.R_mono HO_10.out (fun k_ hk => (⟨hk, fun e_ => hk.2 (by rw [e_]; rfl)⟩ : _ ∧ k_ ≠ go42))) (fun _ hk => hk.2) (.int .u8 (Go.bits .xor .u8 (rd y140 (ji36)) (ji41)))) (fun _ h_ => h_.1))) (Kd.Q_base ho0) hb); have n1_ := Aside0.mk (Kd.R_elder' (by (with_reducible repeat (first | apply Kd.R_alloc | apply Kd.R_drewN | apply Kd.R_drew)); exact HQ51.out) (Kd.Q_base ho0) hb); have n2_ := Aside0.mk (Kd.Q_lower (Kd.Q_new' (Kd.Q_new' ho0 (Kd.R_lt (by (with_reducible repeat (first | apply Kd.R_alloc | apply Kd.R_drewN | apply Kd.R_drew)); exact (Kd.R_mono (Kd.R_far (p := ⟨go42, ((ji36) : Int).toNat, none⟩) (Kd.R_mono HO_10.out (fun k_ hk => (⟨hk, fun e_ => hk.2 (by rw [e_]; rfl)⟩ : _ ∧ k_ ≠ go42))) (fun _ hk => hk.2) (.int .u8 (Go.bits .xor .u8 (rd y140 (ji36)) (ji41)))) (fun _ h_ => h_.1))))) (Kd.R_lt (by (with_reducible repeat (first | apply Kd.R_alloc | apply Kd.R_drewN | apply Kd.R_drew)); exact HQ51.out))) (below_size (by repeat (first | (with_reducible first | exact HB.out | apply below_alloc | apply pw_below_drewN | apply below_drew1 | refine below_set ?_ GB42.out) | exact HB.out)))); have n3_ := Aside0.mk (below_step (by repeat (first | (with_reducible first | exact HB.out | apply below_alloc | apply pw_below_drewN | apply below_drew1 | refine below_set ?_ GB42.out) | exact HB.out)) hb); clear HO_10; clear HO142; clear HB; have HO_10 := n0_; have HO142 := n1_; have HO149 := n2_; have HB := n3_; clear n0_ n1_ n2_ n3_; (try clear hb); (try clear hb2); (try clear hgn); (try clear hk); (try clear hi); (try clear ho0)))
                      go_ret
                      exact ⟨by first | rfl | (simp [errW_none, errW_some] <;> rfl) | (simp only [← hji36, ← hji39, ← hji41]; first | rfl | (simp [errW_none, errW_some] <;> rfl)) | (simp [*, errW_none, errW_some] <;> rfl), by repeat (first | (with_reducible first | exact HB.out | apply below_alloc | apply pw_below_drewN | apply below_drew1) | exact HB.out)⟩
                    · replace c44 := Bool.eq_false_iff.mpr c44
                      subst c44
                      have H1 : (some false) = some r := by rw [if_neg (show ¬ (false = true) by decide)] at H; exact H
                      clear H
                      have H := H1
                      clear H1
                      obtain rfl := Option.some.inj H
                      try go_wp2_with (first | ((with_reducible refine gate_dst (N := 67) rfl ?_); (try (refine gate_guard (by rfl) ?_; dsimp only)); refine Kd.R_lit (Kd.int .u8) _ 5 ?hg (N := 67) ?hd (xs := ([] : List Int)) (inner := []) (ok := fun _ => True) (okp := fun _ => True) ?hr ?hp (fun _ hk => hk) trivial (Below.refl _ _) (Nat.le_refl _) (by simp) ?_; (case hd => rfl); (case hg => rfl); (case hr => first | (go_simp; done) | (go_simp; rfl)); (case hp => exact (Reps.none _ _)); intro v138 w53 ho54 hb hg_ hnew_; clear hg_ hnew_; (first | rw [← Ny137.out] at ho54 | (simp only [Int.reduceToNat] at ho54; rw [← Ny137.out] at ho54)); have n0_ := Aside0.mk (Kd.R_elder' (by (with_reducible repeat (first | apply Kd.R_alloc | apply Kd.R_drewN | apply Kd.R_drew)); exact HO_10.out) (Kd.R_base ho54) hb); have n1_ := Aside0.mk (Kd.R_lower (Kd.R_new' ho54 (Kd.R_lt (by (with_reducible repeat (first | apply Kd.R_alloc | apply Kd.R_drewN | apply Kd.R_drew)); exact HO_10.out))) (below_size (by repeat (first | (with_reducible first | exact HB.out | apply below_alloc | apply pw_below_drewN | apply below_drew1) | exact HB.out)))); have n2_ := Aside0.mk (below_step (by repeat (first | (with_reducible first | exact HB.out | apply below_alloc | apply pw_below_drewN | apply below_drew1) | exact HB.out)) hb); clear HO_10; clear HB; have HO_10 := n0_; have HO139 := n1_; have HB := n2_; clear n0_ n1_ n2_; clear hb ho54; obtain ⟨Ao56, co56, eo56⟩ := Kd.R_slice HO_10.out; subst eo56) | ((with_reducible refine gate_builtin (b := .append) (xs := #[.tmp 67, .tmp 68]) rfl ?_); (try (refine gate_guard (by rfl) ?_; dsimp only)); at_builtin; refine Kd.R_append_rows (Kd.int .u8) (w0 := w) w.heap.size rfl (.tmp 67) (.tmp 68) 22 5 (.int .u8 0) 1 rfl Try.underlying22 info5 rfl (by decide) (by omega) v138 y137 t121 _ _ _ (fun k_ => some k_ ≠ (.slice Ao56 t121.length co56 : Value).ownBlock) (fun _ => False) rfl rfl ?aO ?aR (fun _ _ h => h) (fun _ h => h.elim) ?aF ?aB ?aS ?aL ?_; (case aR => repeat (first | exact (Kd.R_reads' HO_10.out).2.2 | (with_reducible refine Kd.C_alloc ?_ _) | (with_reducible refine Kd.C_drewN ?_ _) | (with_reducible refine Kd.C_drew ?_))); (case aB => exact (by repeat (first | (with_reducible first | exact HB.out | apply below_alloc | apply pw_below_drewN | apply below_drew1) | exact HB.out))); (case aF => exact (fun k_ hk => Kd.fresh' (Kd.R_lt (by (with_reducible repeat (first | apply Kd.R_alloc | apply Kd.R_drewN | apply Kd.R_drew)); exact HO_10.out)) k_ hk)); (case aO => exact (by (with_reducible repeat (first | apply Kd.R_alloc | apply Kd.R_drewN | apply Kd.R_drew)); exact Kd.R_mono HO139.out (fun _ hk => hk.2))); (case aS => exact (below_size (by repeat (first | (with_reducible first | exact HB.out | apply below_alloc | apply pw_below_drewN | apply below_drew1) | exact HB.out)))); (case aL => have := LMc34.out; omega); intro v141 w55 ho hb hg hat; rw [← Ny140.out] at ho; have n0_ := Aside0.mk (Kd.R_after (ok := (fun _ => True)) (by (with_reducible repeat (first | apply Kd.R_alloc | apply Kd.R_drewN | apply Kd.R_drew)); exact HO_10.out) hg hat); have n1_ := Aside0.mk (hb); have n2_ := Aside0.mk (ho); clear HO_10; clear HB; clear HO139; have HO_10 := n0_; have HB := n1_; have HO142 := n2_; clear n0_ n1_ n2_; clear ho hb hg hat; obtain ⟨Ao57, co57, eo57⟩ := Kd.R_slice HO142.out; subst eo57))
                      have n0_ := Aside0.mk (Kd.R_drew HO_10.out)
                      have n1_ := Aside0.mk (Kd.R_drew HO142.out)
                      have n2_ := Aside0.mk (below_drew1 HB.out)
                      clear HO_10
                      clear HO142
                      clear HB
                      have HO_10 := n0_
                      have HO142 := n1_
                      have HB := n2_
                      clear n0_ n1_ n2_
                      have p143 : 0 ≤ ((ji36) : Int) := of_decide_eq_true (by first | (with_reducible assumption) | assumption)
                      have q143 : (ji36) < (y140.length : Int) := of_decide_eq_true (by first | (with_reducible assumption) | assumption)
                      obtain ⟨ad143, e143, hx143_0⟩ := Kd.at_int (Kd.R_reads' HO142.out).2.2 (ji36) p143 q143
                      cases e143
                      replace p143 := eq_true p143
                      replace q143 := eq_true q143
                      have p42 : 0 ≤ ((ji36) : Int) := of_decide_eq_true (by first | (with_reducible assumption) | assumption)
                      have q42 : ((ji36) : Int) < ((y140.length : Int) : Int) := of_decide_eq_true (by first | (with_reducible assumption) | assumption)
                      obtain ⟨go42, co42, eo42, gb42, gl42, cl42, HG42⟩ := Kd.R_form HO142.out (by omega)
                      (first | cases eo42 | (injection eo42 with ea_ en_ ec_; (first | subst ea_ | (injection ea_ with ea_; subst ea_)); subst ec_; clear en_))
                      have GB42 := Aside0.mk gb42
                      have GG42 := Aside0.mk HG42
                      clear gb42 gl42 HG42
                      (first | simp only [add_plain] at hx143_0 | skip)
                      obtain ⟨hx42_0, hf42_0⟩ := Kd.R_celln 0 HO142.out ((ji36) : Int) p42 q42
                      replace p42 := eq_true p42
                      replace q42 := eq_true q42
                      have HP59 := Kd.R_putn HO142.out ((ji36) : Int) (Go.bits .xor .u8 (rd y140 (ji36)) (ji41))
                      rw [← Ny144.out] at HP59
                      have HQ59 := Aside0.mk HP59
                      clear HP59
                      refine start_ (n := 14) (S := fun w' => w'.cell? ⟨go42, ((ji36)).toNat, none⟩ = some (.int .u8 (rd y140 (ji36)))) (ds := [13]) #[false, false, false, false, false, false, false, false, false, false, false, false, false, false] (by kernel_rfl) rfl rfl (hx143_0) (fun hHeld => ?_); refine with_tabW watchkeeperlaw02_RtuSpoilt.tab12 watchkeeperlaw02_RtuSpoilt.bits12 (fun HT_ HW_ => ?_)
                      generalize w55.drew = w58 at HO_10 HO142 HB GG42 HQ59 hf42_0 hx143_0 hx42_0 hHeld ⊢
                      refine pure_ (i := 0) (N := some 76) (v := ?_) (a' := ?_) #[true, false, false, false, false, false, false, false, false, false, false, false, false, false] rfl rfl (any_of HT_.out (by kernel_rfl)) (fun _ _ _ h => h) (Or.inl ⟨by rfl, ?_⟩) ?_ ?_
                      rotate_left
                      · intro w'
                        go_simp
                        with_reducible rfl
                      rotate_left
                      · simp only [Act.put, List.setIfInBounds_toArray, List.set_cons_zero, List.set_cons_succ, i64_w, i32_w]
                        rfl
                      refine pure_ (i := 1) (N := some 77) (v := ?_) (a' := ?_) #[true, true, false, false, false, false, false, false, false, false, false, false, false, false] rfl rfl (any_of HT_.out (by kernel_rfl)) (fun _ _ _ h => h) (Or.inl ⟨by rfl, ?_⟩) ?_ ?_
                      rotate_left
                      · intro w'
                        go_simp
                        with_reducible rfl
                      rotate_left
                      · simp only [Act.put, List.setIfInBounds_toArray, List.set_cons_zero, List.set_cons_succ, i64_w, i32_w]
                        rfl
                      refine pure_ (i := 2) (N := some 78) (v := ?_) (a' := ?_) #[true, true, true, false, false, false, false, false, false, false, false, false, false, false] rfl rfl (any_of HT_.out (by kernel_rfl)) (fun _ _ _ h => h) (Or.inl ⟨by rfl, ?_⟩) ?_ ?_
                      rotate_left
                      · intro w'
                        go_simp
                        with_reducible rfl
                      rotate_left
                      · simp only [Act.put, List.setIfInBounds_toArray, List.set_cons_zero, List.set_cons_succ, i64_w, i32_w]
                        rfl
                      refine pure_ (i := 3) (N := some 79) (v := ?_) (a' := ?_) #[true, true, true, true, false, false, false, false, false, false, false, false, false, false] rfl rfl (any_of HT_.out (by kernel_rfl)) (fun _ _ _ h => h) (Or.inl ⟨by rfl, ?_⟩) ?_ ?_
                      rotate_left
                      · intro w'
                        go_simp
                        with_reducible rfl
                      rotate_left
                      · simp only [Act.put, List.setIfInBounds_toArray, List.set_cons_zero, List.set_cons_succ, i64_w, i32_w]
                        rfl
                      refine pure_ (i := 4) (N := some 80) (v := ?_) (a' := ?_) #[true, true, true, true, true, false, false, false, false, false, false, false, false, false] rfl rfl (any_of HT_.out (by kernel_rfl)) (fun _ _ _ h => h) (Or.inl ⟨by rfl, ?_⟩) ?_ ?_
                      rotate_left
                      · intro w'
                        go_simp
                        with_reducible rfl
                      rotate_left
                      · simp only [Act.put, List.setIfInBounds_toArray, List.set_cons_zero, List.set_cons_succ, i64_w, i32_w]
                        rfl
                      refine pure_ (i := 5) (N := some 81) (v := ?_) (a' := ?_) #[true, true, true, true, true, true, false, false, false, false, false, false, false, false] rfl rfl (any_of HT_.out (by kernel_rfl)) (fun _ _ _ h => h) (Or.inl ⟨by rfl, ?_⟩) ?_ ?_
                      rotate_left
                      · intro w'
                        go_simp
                        with_reducible rfl
                      rotate_left
                      · simp only [Act.put, List.setIfInBounds_toArray, List.set_cons_zero, List.set_cons_succ, i64_w, i32_w]
                        rfl
                      refine pure_ (i := 6) (N := some 82) (v := ?_) (a' := ?_) #[true, true, true, true, true, true, true, false, false, false, false, false, false, false] rfl rfl (any_of HT_.out (by kernel_rfl)) (fun _ _ _ h => h) (Or.inl ⟨by rfl, ?_⟩) ?_ ?_
                      rotate_left
                      · intro w'
                        go_simp
                        with_reducible rfl
                      rotate_left
                      · simp only [Act.put, List.setIfInBounds_toArray, List.set_cons_zero, List.set_cons_succ, i64_w, i32_w]
                        rfl
                      refine pure_ (i := 8) (N := some 84) (v := ?_) (a' := ?_) #[true, true, true, true, true, true, true, false, true, false, false, false, false, false] rfl rfl (any_of HT_.out (by kernel_rfl)) (fun _ _ _ h => h) (Or.inl ⟨by rfl, ?_⟩) ?_ ?_
                      rotate_left
                      · intro w'
                        go_simp
                        with_reducible rfl
                      rotate_left
                      · simp only [Act.put, List.setIfInBounds_toArray, List.set_cons_zero, List.set_cons_succ, i64_w, i32_w]
                        rfl
                      refine pure_ (i := 9) (N := some 85) (v := ?_) (a' := ?_) #[true, true, true, true, true, true, true, false, true, true, false, false, false, false] rfl rfl (any_of HT_.out (by kernel_rfl)) (fun _ _ _ h => h) (Or.inl ⟨by rfl, ?_⟩) ?_ ?_
                      rotate_left
                      · intro w'
                        go_simp
                        with_reducible rfl
                      rotate_left
                      · simp only [Act.put, List.setIfInBounds_toArray, List.set_cons_zero, List.set_cons_succ, i64_w, i32_w]
                        rfl
                      refine pure_ (i := 10) (N := some 86) (v := ?_) (a' := ?_) #[true, true, true, true, true, true, true, false, true, true, true, false, false, false] rfl rfl (any_of HT_.out (by kernel_rfl)) (fun _ _ _ h => h) (Or.inl ⟨by rfl, ?_⟩) ?_ ?_
                      rotate_left
                      · intro w'
                        go_simp
                        with_reducible rfl
                      rotate_left
                      · simp only [Act.put, List.setIfInBounds_toArray, List.set_cons_zero, List.set_cons_succ, i64_w, i32_w]
                        rfl
                      refine take_ (i := 7) (N := some 83) (v := ?_) (a' := ?_) #[true, true, true, true, true, true, true, true, true, true, true, false, false, false] rfl rfl (take_ofW HT_.out HW_.out (by kernel_rfl)) (fun _ _ _ h => h) (Or.inl ⟨by rfl, ?_⟩) hHeld ?_ ?_
                      rotate_left
                      · intro w' s0
                        go_simp
                        with_reducible rfl
                      rotate_left
                      · simp only [Act.put, List.setIfInBounds_toArray, List.set_cons_zero, List.set_cons_succ, i64_w, i32_w]
                        rfl
                      refine pure_ (i := 11) (N := some 87) (v := ?_) (a' := ?_) #[true, true, true, true, true, true, true, true, true, true, true, true, false, false] rfl rfl (any_of HT_.out (by kernel_rfl)) (fun _ _ _ h => h) (Or.inl ⟨by rfl, ?_⟩) ?_ ?_
                      rotate_left
                      · intro w'
                        go_simp
                        with_reducible rfl
                      rotate_left
                      · simp only [Act.put, List.setIfInBounds_toArray, List.set_cons_zero, List.set_cons_succ, i64_w, i32_w]
                        rfl
                      refine pure_ (i := 12) (N := some 88) (v := ?_) (a' := ?_) #[true, true, true, true, true, true, true, true, true, true, true, true, true, false] rfl rfl (any_of HT_.out (by kernel_rfl)) (fun _ _ _ h => h) (Or.inl ⟨by rfl, ?_⟩) ?_ ?_
                      rotate_left
                      · intro w'
                        go_simp
                        with_reducible rfl
                      rotate_left
                      · simp only [Act.put, List.setIfInBounds_toArray, List.set_cons_zero, List.set_cons_succ, i64_w, i32_w]
                        rfl
                      refine last_ (i := 13) (N := none) #[true, true, true, true, true, true, true, true, true, true, true, true, true, true] rfl rfl (one_of HT_.out (by kernel_rfl)) (by decide) (fun K hK => ?_)
                      refine skip_ (w1 := ?_) (by rfl) rfl ?_ ?_
                      rotate_left
                      · go_simp
                        rfl
                      refine hK.out _ _ ?_
                      clear hK K
                      refine done_ (done_of HT_.out (by kernel_rfl)) ?_
                      try go_wp2_with (first | ((with_reducible refine gate_callee (f := 10) rfl ?_); refine goesL_ (some 91) rfl rfl Try.func10 (by kernel_rfl) rfl #[.slice (some ⟨go42, 0, none⟩) y144.length co57] rfl (by (try simp only [List.map_toArray, List.map_cons, List.map_nil]); first | done | (rw [show y144.length = y140.length from (Kd.R_reads' HQ59.out).1.symm] <;> rfl) | rfl | (simp only [List.length_drop, List.length_take]; rfl)) ?_; (with_reducible refine (rtu_Get.calls _ _ y144 t145 t146 t147 _ ?side1 ?side2 A43.out).mono ?_); (case side1 => refine (Kd.R_reads' (e := 5) (base := w.heap.size) (ok := fun k_ => some k_ ≠ (.slice Ao56 t121.length co56 : Value).ownBlock) (n := y140.length) (c := co57) ?_).2.2; exact (by (with_reducible repeat (first | apply Kd.R_alloc | apply Kd.R_drewN | apply Kd.R_drew)); exact HQ59.out)); (case side2 => rw [show y144.length = y140.length from (Kd.R_reads' HQ59.out).1.symm]; exact (Kd.R_reads' HO142.out).2.1); rintro e w60 ⟨v148, rfl, ho0, hb⟩; refine ⟨_, rfl, ?_⟩; have n0_ := Aside0.mk (Kd.R_elder' (by (with_reducible repeat (first | apply Kd.R_alloc | apply Kd.R_drewN | apply Kd.R_drew)); exact (Kd.R_mono (Kd.R_far (p := ⟨go42, ((ji36) : Int).toNat, none⟩) (Kd.R_mono HO_10.out (fun k_ hk => (⟨hk, fun e_ => hk.2 (by rw [e_]; rfl)⟩ : _ ∧ k_ ≠ go42))) (fun _ hk => hk.2) (.int .u8 (Go.bits .xor .u8 (rd y140 (ji36)) (ji41)))) (fun _ h_ => h_.1))) (Kd.Q_base ho0) hb); have n1_ := Aside0.mk (Kd.R_elder' (by (with_reducible repeat (first | apply Kd.R_alloc | apply Kd.R_drewN | apply Kd.R_drew)); exact HQ59.out) (Kd.Q_base ho0) hb); have n2_ := Aside0.mk (Kd.Q_lower (Kd.Q_new' (Kd.Q_new' ho0 (Kd.R_lt (by (with_reducible repeat (first | apply Kd.R_alloc | apply Kd.R_drewN | apply Kd.R_drew)); exact (Kd.R_mono (Kd.R_far (p := ⟨go42, ((ji36) : Int).toNat, none⟩) (Kd.R_mono HO_10.out (fun k_ hk => (⟨hk, fun e_ => hk.2 (by rw [e_]; rfl)⟩ : _ ∧ k_ ≠ go42))) (fun _ hk => hk.2) (.int .u8 (Go.bits .xor .u8 (rd y140 (ji36)) (ji41)))) (fun _ h_ => h_.1))))) (Kd.R_lt (by (with_reducible repeat (first | apply Kd.R_alloc | apply Kd.R_drewN | apply Kd.R_drew)); exact HQ59.out))) (below_size (by repeat (first | (with_reducible first | exact HB.out | apply below_alloc | apply pw_below_drewN | apply below_drew1 | refine below_set ?_ GB42.out) | exact HB.out)))); have n3_ := Aside0.mk (below_step (by repeat (first | (with_reducible first | exact HB.out | apply below_alloc | apply pw_below_drewN | apply below_drew1 | refine below_set ?_ GB42.out) | exact HB.out)) hb); clear HO_10; clear HO142; clear HB; have HO_10 := n0_; have HO142 := n1_; have HO149 := n2_; have HB := n3_; clear n0_ n1_ n2_ n3_; (try clear hb); (try clear hb2); (try clear hgn); (try clear hk); (try clear hi); (try clear ho0)))
                      go_ret
                      exact ⟨by first | rfl | (simp [errW_none, errW_some] <;> rfl) | (simp only [← hji36, ← hji39, ← hji41]; first | rfl | (simp [errW_none, errW_some] <;> rfl)) | (simp [*, errW_none, errW_some] <;> rfl), by repeat (first | (with_reducible first | exact HB.out | apply below_alloc | apply pw_below_drewN | apply below_drew1) | exact HB.out)⟩
                  · rw [if_neg c40] at H
                    exact absurd H (by simp)
                · rw [if_neg c38] at H
                  exact absurd H (by simp)
              · rw [if_neg c37] at H
                exact absurd H (by simp)
          · rw [if_neg c34] at H
            exact absurd H (by simp)

/-- THE ONE PURE STATEMENT of watchkeeperlaw02_RtuSpoilt: yours. -/
def watchkeeperlaw02_RtuSpoilt.Pure : Prop := ∀ (a0 : Int) (l1 : List Int) (a2 : Int) (a3 : Bool), (Lit.int .u8 a0).wf = true → l1.length ≤ maxLen → l1.length * 1 ≤ 140737488351232 → (∀ x ∈ l1, (Lit.int .u8 x).wf = true) → (Lit.int .u16 a2).wf = true → ∃ k, watchkeeperlaw02_RtuSpoilt.f k a0 l1 a2 a3 = some true
theorem watchkeeperlaw02_RtuSpoilt.walk (P : watchkeeperlaw02_RtuSpoilt.Pure) (a0 : Int) (a1 : Option Addr) (len1 cap1 : Nat) (z1 : List Int) (a2 : Int) (a3 : Bool) (w : World) (w0 : (Lit.int .u8 a0).wf = true) (w1 : (a1 = none ∧ len1 = 0 ∧ cap1 = 0 ∧ z1 = []) ∨ ∃ x, a1 = some x ∧ len1 ≤ cap1 ∧ cap1 ≤ maxLen ∧ z1.length = cap1 ∧ (∀ i, i < z1.length → w.cell? (x.add i) = some (.int .u8 (z1.getD i 0))) ∧ ∀ n ∈ z1, (Lit.int .u8 n).wf = true) (y1 : len1 * 1 ≤ 140737488351232) (w2 : (Lit.int .u16 a2).wf = true) :
    Calls Try.prog 7 #[.int .u8 a0, .slice a1 len1 cap1, .int .u16 a2, .bool a3] w fun e w' => e = .returned (.bool true) ∧ Below w.heap.size w w' := by
  obtain ⟨l1, rfl, hr1, hm1, hw1, hc1⟩ := ReadsInt.ofRowC w1
  obtain ⟨k, h⟩ := P a0 l1 a2 a3 w0 hm1 y1 hw1 w2
  refine (watchkeeperlaw02_RtuSpoilt.calls k a0 _ _ l1 a2 a3 true w (Kd.C_of_reads (d := (0 : Int)) (h1 := fun _ => rfl) hr1) hc1 h).mono ?_
  rintro e w' ⟨rfl, hd⟩
  exact ⟨rfl, hd⟩

end Go.Proofs.Ytafkabkoglbndaa.QC
