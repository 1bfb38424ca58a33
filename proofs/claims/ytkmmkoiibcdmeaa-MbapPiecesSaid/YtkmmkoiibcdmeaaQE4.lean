/- Contracts of the functions that the law reaches, and what each comes to as a plain function; laid by a program of mine over the printer. -/
import Derived.Test.YtkmmkoiibcdmeaaCV
import Derived.Test.YtkmmkoiibcdmeaaQE1
import Derived.Test.YtkmmkoiibcdmeaaQE3
namespace Go.Proofs.Ytkmmkoiibcdmeaa.QD
open Go.RowKit Go.Proofs.YtkmmkoiibcdmeaaW.PrintWords Go.Proofs.YtkmmkoiibcdmeaaW.PrintLast Go.Proofs.YtkmmkoiibcdmeaaW.PrintMore
attribute [local go_sem] max2_int min2_int max_two min_two max_three min_three max_four min_four   -- for this text's walks alone
set_option linter.unusedVariables false
set_option linter.unusedSimpArgs false

/-! ### watchkeeperlaw03_MbapPieces: function 6 -/
mutual
def watchkeeperlaw03_MbapPieces.j0 : Nat → List Int → List Int → Bool → Bool → Option (Bool)
  | 0, _, _, _, _ => none
  | k + 1, x0, x1, x5, x26 => if x26 = true then (some x5) else (watchkeeperlaw03_MbapPieces.l0 k x0 x1 x5 ([] : List Int) ([] : List (S26)) 0 0 0)
def watchkeeperlaw03_MbapPieces.l0 : Nat → List Int → List Int → Bool → List Int → List (S26) → Int → Int → Int → Option (Bool)
  | 0, _, _, _, _, _, _, _, _ => none
  | k + 1, x0, x1, x5, x6, x7, x8, x9, x10 => if x10 ≤ (x1.length : Int) then (watchkeeperlaw03_MbapPieces.j2 k x0 x1 x5 x6 x7 x8 x9 x10 (x9 == 0)) else (watchkeeperlaw03_MbapPieces.j2 k x0 x1 x5 x6 x7 x8 x9 x10 false)
def watchkeeperlaw03_MbapPieces.j2 : Nat → List Int → List Int → Bool → List Int → List (S26) → Int → Int → Int → Bool → Option (Bool)
  | 0, _, _, _, _, _, _, _, _, _ => none
  | k + 1, x0, x1, x5, x6, x7, x8, x9, x10, x35 => if x35 = true then (if x10 < (x1.length : Int) then (if 0 ≤ x10 then (if 0 ≤ x8 then (if x8 ≤ (wrap64 (x8 + (mn (wrap64 (rd x1 x10)) (wrap64 ((x0.length : Int) - x8))))) then (if (wrap64 (x8 + (mn (wrap64 (rd x1 x10)) (wrap64 ((x0.length : Int) - x8))))) ≤ (x0.length : Int) then (if x6.length + ((x0.take ((wrap64 (x8 + (mn (wrap64 (rd x1 x10)) (wrap64 ((x0.length : Int) - x8))))) : Int).toNat).drop (x8 : Int).toNat).length < 140737488355328 then ((some (x6 ++ ((x0.take ((wrap64 (x8 + (mn (wrap64 (rd x1 x10)) (wrap64 ((x0.length : Int) - x8))))) : Int).toNat).drop (x8 : Int).toNat) : List Int)).bind fun y204 => ((mbap_Cut.f y204).bind fun bt207 => (if bt207.2.1 < 0 then (some false) else (if bt207.2.1 > (y204.length : Int) then (some false) else (if x7.length + bt207.1.length < 4398046511104 then ((some (([] : List Int) : List Int)).bind fun y215 => (if 0 ≤ bt207.2.1 then (if bt207.2.1 ≤ (y204.length : Int) then ((some (y204.drop (bt207.2.1 : Int).toNat : List Int)).bind fun y218 => (if y215.length + y218.length < 140737488355328 then (watchkeeperlaw03_MbapPieces.l0 k x0 x1 x5 (y215 ++ y218) (x7 ++ bt207.1) (wrap64 (x8 + (mn (wrap64 (rd x1 x10)) (wrap64 ((x0.length : Int) - x8))))) bt207.2.2 (wrap64 (x10 + 1))) else (none))) else (none)) else (none))) else (none)))))) else (none)) else (none)) else (none)) else (none)) else (none)) else (if 0 ≤ x8 then (if x8 ≤ (wrap64 (x8 + (wrap64 ((x0.length : Int) - x8)))) then (if (wrap64 (x8 + (wrap64 ((x0.length : Int) - x8)))) ≤ (x0.length : Int) then (if x6.length + ((x0.take ((wrap64 (x8 + (wrap64 ((x0.length : Int) - x8)))) : Int).toNat).drop (x8 : Int).toNat).length < 140737488355328 then ((some (x6 ++ ((x0.take ((wrap64 (x8 + (wrap64 ((x0.length : Int) - x8)))) : Int).toNat).drop (x8 : Int).toNat) : List Int)).bind fun y227 => ((mbap_Cut.f y227).bind fun bt230 => (if bt230.2.1 < 0 then (some false) else (if bt230.2.1 > (y227.length : Int) then (some false) else (if x7.length + bt230.1.length < 4398046511104 then ((some (([] : List Int) : List Int)).bind fun y238 => (if 0 ≤ bt230.2.1 then (if bt230.2.1 ≤ (y227.length : Int) then ((some (y227.drop (bt230.2.1 : Int).toNat : List Int)).bind fun y241 => (if y238.length + y241.length < 140737488355328 then (watchkeeperlaw03_MbapPieces.l0 k x0 x1 x5 (y238 ++ y241) (x7 ++ bt230.1) (wrap64 (x8 + (wrap64 ((x0.length : Int) - x8)))) bt230.2.2 (wrap64 (x10 + 1))) else (none))) else (none)) else (none))) else (none)))))) else (none)) else (none)) else (none)) else (none))) else ((mbap_Cut.f x0).bind fun bt196 => (if x5 = true then ((watchkeeperref03_SameAll.f k x7 bt196.1).bind fun t201 => (if t201 = true then (some (x9 == bt196.2.2)) else (some false))) else (some false)))
end
def watchkeeperlaw03_MbapPieces.f (k : Nat) (l0 : List Int) (l1 : List Int) : Option (Bool) := (watchkeeperlaw03_head.f).bind fun t195 => (if (l0.length : Int) > 9000 then (watchkeeperlaw03_MbapPieces.j0 k l0 l1 t195 true) else (watchkeeperlaw03_MbapPieces.j0 k l0 l1 t195 (decide ((l1.length : Int) > 300))))
theorem watchkeeperlaw03_MbapPieces.mono_l : ∀ k, (∀ y0 y1 y2 y3, LeO (watchkeeperlaw03_MbapPieces.j0 k y0 y1 y2 y3) (watchkeeperlaw03_MbapPieces.j0 (k + 1) y0 y1 y2 y3)) ∧ (∀ y0 y1 y2 y3 y4 y5 y6 y7, LeO (watchkeeperlaw03_MbapPieces.l0 k y0 y1 y2 y3 y4 y5 y6 y7) (watchkeeperlaw03_MbapPieces.l0 (k + 1) y0 y1 y2 y3 y4 y5 y6 y7)) ∧ (∀ y0 y1 y2 y3 y4 y5 y6 y7 y8, LeO (watchkeeperlaw03_MbapPieces.j2 k y0 y1 y2 y3 y4 y5 y6 y7 y8) (watchkeeperlaw03_MbapPieces.j2 (k + 1) y0 y1 y2 y3 y4 y5 y6 y7 y8))
  | 0 => ⟨fun _ _ _ _ r h => by simp [watchkeeperlaw03_MbapPieces.j0] at h, fun _ _ _ _ _ _ _ _ r h => by simp [watchkeeperlaw03_MbapPieces.l0] at h, fun _ _ _ _ _ _ _ _ _ r h => by simp [watchkeeperlaw03_MbapPieces.j2] at h⟩
  | k + 1 => by
    obtain ⟨ih0, ih1, ih2⟩ := watchkeeperlaw03_MbapPieces.mono_l k
    refine ⟨?_, ?_, ?_⟩
    · intro y0 y1 y2 y3
      unfold watchkeeperlaw03_MbapPieces.j0
      repeat' first
      | (with_reducible exact ih0 _ _ _ _)
      | (with_reducible exact ih1 _ _ _ _ _ _ _ _)
      | (with_reducible exact ih2 _ _ _ _ _ _ _ _ _)
      | (with_reducible exact watchkeeperref03_SameAll.mono _ _ _)
      | (with_reducible exact LeO.refl _)
      | (with_reducible exact LeO.none _)
      | (with_reducible refine LeO.ite ?_ ?_)
      | (with_reducible refine LeO.bind ?_ (fun _ => ?_))
      | exact ih0 _ _ _ _
      | exact ih1 _ _ _ _ _ _ _ _
      | exact ih2 _ _ _ _ _ _ _ _ _
      | exact watchkeeperref03_SameAll.mono _ _ _
      | exact LeO.none _
      | refine LeO.ite ?_ ?_
      | refine LeO.bind ?_ (fun _ => ?_)
    · intro y0 y1 y2 y3 y4 y5 y6 y7
      unfold watchkeeperlaw03_MbapPieces.l0
      repeat' first
      | (with_reducible exact ih0 _ _ _ _)
      | (with_reducible exact ih1 _ _ _ _ _ _ _ _)
      | (with_reducible exact ih2 _ _ _ _ _ _ _ _ _)
      | (with_reducible exact watchkeeperref03_SameAll.mono _ _ _)
      | (with_reducible exact LeO.refl _)
      | (with_reducible exact LeO.none _)
      | (with_reducible refine LeO.ite ?_ ?_)
      | (with_reducible refine LeO.bind ?_ (fun _ => ?_))
      | exact ih0 _ _ _ _
      | exact ih1 _ _ _ _ _ _ _ _
      | exact ih2 _ _ _ _ _ _ _ _ _
      | exact watchkeeperref03_SameAll.mono _ _ _
      | exact LeO.none _
      | refine LeO.ite ?_ ?_
      | refine LeO.bind ?_ (fun _ => ?_)
    · intro y0 y1 y2 y3 y4 y5 y6 y7 y8
      unfold watchkeeperlaw03_MbapPieces.j2
      repeat' first
      | (with_reducible exact ih0 _ _ _ _)
      | (with_reducible exact ih1 _ _ _ _ _ _ _ _)
      | (with_reducible exact ih2 _ _ _ _ _ _ _ _ _)
      | (with_reducible exact watchkeeperref03_SameAll.mono _ _ _)
      | (with_reducible exact LeO.refl _)
      | (with_reducible exact LeO.none _)
      | (with_reducible refine LeO.ite ?_ ?_)
      | (with_reducible refine LeO.bind ?_ (fun _ => ?_))
      | exact ih0 _ _ _ _
      | exact ih1 _ _ _ _ _ _ _ _
      | exact ih2 _ _ _ _ _ _ _ _ _
      | exact watchkeeperref03_SameAll.mono _ _ _
      | exact LeO.none _
      | refine LeO.ite ?_ ?_
      | refine LeO.bind ?_ (fun _ => ?_)
theorem watchkeeperlaw03_MbapPieces.mono : ∀ a0 a1 k, LeO (watchkeeperlaw03_MbapPieces.f k a0 a1) (watchkeeperlaw03_MbapPieces.f (k + 1) a0 a1) := by
  intro a0 a1 k
  obtain ⟨ih0, ih1, ih2⟩ := watchkeeperlaw03_MbapPieces.mono_l k
  unfold watchkeeperlaw03_MbapPieces.f
  repeat' first
      | (with_reducible exact ih0 _ _ _ _)
      | (with_reducible exact ih1 _ _ _ _ _ _ _ _)
      | (with_reducible exact ih2 _ _ _ _ _ _ _ _ _)
      | (with_reducible exact watchkeeperref03_SameAll.mono _ _ _)
      | (with_reducible exact LeO.refl _)
      | (with_reducible exact LeO.none _)
      | (with_reducible refine LeO.ite ?_ ?_)
      | (with_reducible refine LeO.bind ?_ (fun _ => ?_))
      | exact ih0 _ _ _ _
      | exact ih1 _ _ _ _ _ _ _ _
      | exact ih2 _ _ _ _ _ _ _ _ _
      | exact watchkeeperref03_SameAll.mono _ _ _
      | exact LeO.none _
      | refine LeO.ite ?_ ?_
      | refine LeO.bind ?_ (fun _ => ?_)
set_option maxHeartbeats 8000000 in
set_option maxRecDepth 100000 in
theorem watchkeeperlaw03_MbapPieces.calls (k : Nat) (A0 : Option Addr) (c0 : Nat) (l0 : List Int) (A1 : Option Addr) (c1 : Nat) (l1 : List Int) (r : Bool) (w : World) (hr0 : Kd.C (Kd.int .u8) w A0 l0.length l0) (hc0 : l0.length ≤ c0) (hr1 : Kd.C (Kd.int .u8) w A1 l1.length l1) (hc1 : l1.length ≤ c1) (h : watchkeeperlaw03_MbapPieces.f k l0 l1 = some r) :
    Calls Try.prog 6 #[.slice A0 l0.length c0, .slice A1 l1.length c1] w fun e w' => e = .returned (.bool r) ∧ Below w.heap.size w w' := by
  have HR0 := Aside0.mk hr0
  have HC0 := Aside0.mk hc0
  clear hr0 hc0
  have HR1 := Aside0.mk hr1
  have HC1 := Aside0.mk hc1
  clear hr1 hc1
  have HB := Aside0.mk (Below.refl w.heap.size w)
  have H : ((watchkeeperlaw03_head.f).bind fun t195 => (if (l0.length : Int) > 9000 then (watchkeeperlaw03_MbapPieces.j0 k l0 l1 t195 true) else (watchkeeperlaw03_MbapPieces.j0 k l0 l1 t195 (decide ((l1.length : Int) > 300))))) = some r := h
  clear h
  replace H := Option.bind_eq_some_iff.mp H
  obtain ⟨t195, A30, H⟩ := H
  replace H : (if (l0.length : Int) > 9000 then (watchkeeperlaw03_MbapPieces.j0 k l0 l1 t195 true) else (watchkeeperlaw03_MbapPieces.j0 k l0 l1 t195 (decide ((l1.length : Int) > 300)))) = some r := H
  have A3 := Aside0.mk A30
  clear A30
  have HC4 := Aside0.mk H
  clear H
  go_enter Try.func6, Try.ntmps6
  go_upto_region 2 with (first | ((with_reducible refine gate_callee (f := 9) rfl ?_); refine goesL_ (some 18) rfl rfl Try.func9 (by kernel_rfl) rfl #[] rfl (by (try simp only [List.map_toArray, List.map_cons, List.map_nil]); first | done | rfl | (simp only [List.length_drop, List.length_take]; rfl)) ?_; (with_reducible refine (watchkeeperlaw03_head.calls  t195 _ A3.out).mono ?_); rintro e w5 ⟨rfl, hb⟩; refine ⟨_, rfl, ?_⟩; have n0_ := Aside0.mk (below_step (by repeat (first | (with_reducible first | exact HB.out | apply below_alloc | apply pw_below_drewN | apply below_drew1) | exact HB.out)) hb); clear HB; have HB := n0_; clear n0_; (try clear hb); (try clear hb2); (try clear hgn); (try clear hk); (try clear hi)))
  (try simp only [Act.put, List.setIfInBounds_toArray, List.set_cons_zero, List.set_cons_succ])
  go_cut [26] (fun v26 wc => ∃ (kq : Nat) (x26_3 : Bool), v26 = .bool x26_3 ∧ Aside0 (watchkeeperlaw03_MbapPieces.j0 kq l0 l1 t195 x26_3 = some r) ∧ Aside0 (kq ≤ k) ∧ Aside0 (Below w.heap.size w wc))
  case first =>
    have H := HC4.out
    clear HC4
    by_cases c6 : (l0.length : Int) > 9000
    · rw [if_pos c6] at H
      have c6b0 : decide (9000 < (l0.length : Int)) = true := decide_eq_true c6
      have c6b1 : decide (9000 < l0.length) = true := decide_eq_true (by omega)
      clear c6
      (first | rw [c6b0] | (simp only [i64_w, i32_w]; rw [c6b0]) | skip)
      have H' := Aside0.mk H
      clear H
      go_wp2
      go_meet
      case rel => exact ⟨_, (true), (by first | rfl | (simp; done) | (simp [*]; done)), H', ⟨by first | omega | exact Nat.le_refl _⟩, ⟨by repeat (first | (with_reducible first | exact HB.out | apply below_alloc | apply pw_below_drewN | apply below_drew1) | exact HB.out)⟩⟩
    · rw [if_neg c6] at H
      have c6b0 : decide (9000 < (l0.length : Int)) = false := decide_eq_false c6
      have c6b1 : decide (9000 < l0.length) = false := decide_eq_false (by omega)
      clear c6
      (first | rw [c6b0] | (simp only [i64_w, i32_w]; rw [c6b0]) | skip)
      have H' := Aside0.mk H
      clear H
      go_wp2
      go_meet
      case rel => exact ⟨_, (decide ((l1.length : Int) > 300)), (by first | rfl | (simp; done) | (simp [*]; done)), H', ⟨by first | omega | exact Nat.le_refl _⟩, ⟨by repeat (first | (with_reducible first | exact HB.out | apply below_alloc | apply pw_below_drewN | apply below_drew1) | exact HB.out)⟩⟩
  case rest =>
    clear HC4
    try clear c1
    try clear p2
    try clear c6
    try clear c6b0
    try clear c6b1
    obtain ⟨kq, x26_3, rfl, HA, HJ3, HB⟩ := hcut
    cases kq with
    | zero => exact absurd HA.out (by simp [watchkeeperlaw03_MbapPieces.j0])
    | succ kj3 =>
      have H := HA.out
      clear HA
      simp only [watchkeeperlaw03_MbapPieces.j0] at H
      by_cases c7 : x26_3 = true
      · subst c7
        have H1 : (some t195) = some r := by rw [if_pos rfl] at H; exact H
        clear H
        have H := H1
        clear H1
        obtain rfl := Option.some.inj H
        go_wp2
        go_ret
        exact ⟨by first | rfl | (simp [errW_none, errW_some] <;> rfl) | (simp [*, errW_none, errW_some] <;> rfl), by repeat (first | (with_reducible first | exact HB.out | apply below_alloc | apply pw_below_drewN | apply below_drew1) | exact HB.out)⟩
      · replace c7 := Bool.eq_false_iff.mpr c7
        subst c7
        have H1 : (watchkeeperlaw03_MbapPieces.l0 kj3 l0 l1 t195 ([] : List Int) ([] : List (S26)) 0 0 0) = some r := by rw [if_neg (show ¬ (false = true) by decide)] at H; exact H
        clear H
        have H := H1
        clear H1
        have H' := Aside0.mk H
        clear H
        go_wp2
        go_loopg [6, 7, 8, 9, 10] kj3 (fun kq v6 v7 v8 v9 v10 w' => ∃ (x6_2 : List Int) (x7_2 : List (S26)) (x8_2 : Int) (x9_2 : Int) (x10_2 : Int), v8 = .int .i64 x8_2 ∧ v9 = .int .i64 x9_2 ∧ v10 = .int .i64 x10_2 ∧ Aside0 (watchkeeperlaw03_MbapPieces.l0 kq l0 l1 t195 x6_2 x7_2 x8_2 x9_2 x10_2 = some r) ∧ Aside0 (kq ≤ kj3) ∧ Aside0 (Kd.R (Kd.int .u8) 5 w' w.heap.size (fun _ => True) v6 x6_2) ∧ Aside0 (Kd.N k26 26 w' w.heap.size (fun k_ => some k_ ≠ (v6 : Value).ownBlock) v7 x7_2) ∧ Aside0 (Below w.heap.size w w'))
        case atStart => exact ⟨(([] : List Int)), (([] : List (S26))), (0), (0), (0), (by first | rfl | (simp; done) | (simp [*]; done)), (by first | rfl | (simp; done) | (simp [*]; done)), (by first | rfl | (simp; done) | (simp [*]; done)), H', ⟨Nat.le_refl _⟩, ⟨by first | exact Kd.R_nil _ _ _ _ _ | exact Kd.N_nil _ _ _ _ _ | exact Kd.V_nil _ _ _ _ _ | exact Kd.Q_nil _ _ _ _ _ | exact Kd.S_nil _ _ _ _ _⟩, ⟨by first | exact Kd.S_nil _ _ _ _ _ | exact Kd.N_nil _ _ _ _ _ | exact Kd.V_nil _ _ _ _ _ | exact Kd.Q_nil _ _ _ _ _ | exact Kd.R_nil _ _ _ _ _⟩, ⟨by repeat (first | (with_reducible first | exact HB.out | apply below_alloc | apply pw_below_drewN | apply below_drew1) | exact HB.out)⟩⟩
        case round =>
          clear H'
          try clear c1
          try clear p2
          try clear c6
          try clear c6b0
          try clear c6b1
          try clear c7
          try clear p2
          obtain ⟨x6_2, x7_2, x8_2, x9_2, x10_2, rfl, rfl, rfl, HA, HK2, HO_6, HO_7, HB⟩ := hrel
          cases gk with
          | zero => exact absurd HA.out (by simp [watchkeeperlaw03_MbapPieces.l0])
          | succ k2 =>
            have H := HA.out
            clear HA
            simp only [watchkeeperlaw03_MbapPieces.l0] at H
            have HC8 := Aside0.mk H
            clear H
            go_upto_region 9 with (fail)
            go_cut [35] (fun v35 wc => ∃ (kq : Nat) (x35_7 : Bool), v35 = .bool x35_7 ∧ Aside0 (watchkeeperlaw03_MbapPieces.j2 kq l0 l1 t195 x6_2 x7_2 x8_2 x9_2 x10_2 x35_7 = some r) ∧ Aside0 (kq ≤ k2) ∧ Aside0 (Kd.R (Kd.int .u8) 5 wc w.heap.size (fun _ => True) u6 x6_2) ∧ Aside0 (Kd.N k26 26 wc w.heap.size (fun k_ => some k_ ≠ (u6 : Value).ownBlock) u7 x7_2) ∧ Aside0 (Below w.heap.size w wc))
            case first =>
              have H := HC8.out
              clear HC8
              by_cases c9 : x10_2 ≤ (l1.length : Int)
              · rw [if_pos c9] at H
                have c9b0 : decide (x10_2 ≤ (l1.length : Int)) = true := decide_eq_true c9
                clear c9
                (first | rw [c9b0] | (simp only [i64_w, i32_w]; rw [c9b0]) | skip)
                have H' := Aside0.mk H
                clear H
                go_wp2
                go_meet
                case rel => exact ⟨_, ((x9_2 == 0)), (by first | rfl | (simp; done) | (simp [*]; done)), H', ⟨by have := HJ3.out; have := HK2.out; first | omega | exact Nat.le_refl _⟩, ⟨by (with_reducible repeat (first | apply Kd.R_alloc | apply Kd.R_drewN | apply Kd.R_drew)); exact HO_6.out⟩, ⟨by (with_reducible repeat (first | apply Kd.N_alloc | apply Kd.N_drewN | apply Kd.N_drew)); exact HO_7.out⟩, ⟨by repeat (first | (with_reducible first | exact HB.out | apply below_alloc | apply pw_below_drewN | apply below_drew1) | exact HB.out)⟩⟩
              · rw [if_neg c9] at H
                have c9b0 : decide (x10_2 ≤ (l1.length : Int)) = false := decide_eq_false c9
                clear c9
                (first | rw [c9b0] | (simp only [i64_w, i32_w]; rw [c9b0]) | skip)
                have H' := Aside0.mk H
                clear H
                go_wp2
                go_meet
                case rel => exact ⟨_, (false), (by first | rfl | (simp; done) | (simp [*]; done)), H', ⟨by have := HJ3.out; have := HK2.out; first | omega | exact Nat.le_refl _⟩, ⟨by (with_reducible repeat (first | apply Kd.R_alloc | apply Kd.R_drewN | apply Kd.R_drew)); exact HO_6.out⟩, ⟨by (with_reducible repeat (first | apply Kd.N_alloc | apply Kd.N_drewN | apply Kd.N_drew)); exact HO_7.out⟩, ⟨by repeat (first | (with_reducible first | exact HB.out | apply below_alloc | apply pw_below_drewN | apply below_drew1) | exact HB.out)⟩⟩
            case rest =>
              clear HC8
              try clear c1
              try clear p2
              try clear c6
              try clear c6b0
              try clear c6b1
              try clear c7
              try clear c9
              try clear c9b0
              try clear p2
              obtain ⟨kq, x35_7, rfl, HA, HJ7, HO_6, HO_7, HB⟩ := hcut
              cases kq with
              | zero => exact absurd HA.out (by simp [watchkeeperlaw03_MbapPieces.j2])
              | succ kj7 =>
                have H := HA.out
                clear HA
                simp only [watchkeeperlaw03_MbapPieces.j2] at H
                by_cases c10 : x35_7 = true
                · subst c10
                  have H1 : (if x10_2 < (l1.length : Int) then (if 0 ≤ x10_2 then (if 0 ≤ x8_2 then (if x8_2 ≤ (wrap64 (x8_2 + (mn (wrap64 (rd l1 x10_2)) (wrap64 ((l0.length : Int) - x8_2))))) then (if (wrap64 (x8_2 + (mn (wrap64 (rd l1 x10_2)) (wrap64 ((l0.length : Int) - x8_2))))) ≤ (l0.length : Int) then (if x6_2.length + ((l0.take ((wrap64 (x8_2 + (mn (wrap64 (rd l1 x10_2)) (wrap64 ((l0.length : Int) - x8_2))))) : Int).toNat).drop (x8_2 : Int).toNat).length < 140737488355328 then ((some (x6_2 ++ ((l0.take ((wrap64 (x8_2 + (mn (wrap64 (rd l1 x10_2)) (wrap64 ((l0.length : Int) - x8_2))))) : Int).toNat).drop (x8_2 : Int).toNat) : List Int)).bind fun y204 => ((mbap_Cut.f y204).bind fun bt207 => (if bt207.2.1 < 0 then (some false) else (if bt207.2.1 > (y204.length : Int) then (some false) else (if x7_2.length + bt207.1.length < 4398046511104 then ((some (([] : List Int) : List Int)).bind fun y215 => (if 0 ≤ bt207.2.1 then (if bt207.2.1 ≤ (y204.length : Int) then ((some (y204.drop (bt207.2.1 : Int).toNat : List Int)).bind fun y218 => (if y215.length + y218.length < 140737488355328 then (watchkeeperlaw03_MbapPieces.l0 kj7 l0 l1 t195 (y215 ++ y218) (x7_2 ++ bt207.1) (wrap64 (x8_2 + (mn (wrap64 (rd l1 x10_2)) (wrap64 ((l0.length : Int) - x8_2))))) bt207.2.2 (wrap64 (x10_2 + 1))) else (none))) else (none)) else (none))) else (none)))))) else (none)) else (none)) else (none)) else (none)) else (none)) else (if 0 ≤ x8_2 then (if x8_2 ≤ (wrap64 (x8_2 + (wrap64 ((l0.length : Int) - x8_2)))) then (if (wrap64 (x8_2 + (wrap64 ((l0.length : Int) - x8_2)))) ≤ (l0.length : Int) then (if x6_2.length + ((l0.take ((wrap64 (x8_2 + (wrap64 ((l0.length : Int) - x8_2)))) : Int).toNat).drop (x8_2 : Int).toNat).length < 140737488355328 then ((some (x6_2 ++ ((l0.take ((wrap64 (x8_2 + (wrap64 ((l0.length : Int) - x8_2)))) : Int).toNat).drop (x8_2 : Int).toNat) : List Int)).bind fun y227 => ((mbap_Cut.f y227).bind fun bt230 => (if bt230.2.1 < 0 then (some false) else (if bt230.2.1 > (y227.length : Int) then (some false) else (if x7_2.length + bt230.1.length < 4398046511104 then ((some (([] : List Int) : List Int)).bind fun y238 => (if 0 ≤ bt230.2.1 then (if bt230.2.1 ≤ (y227.length : Int) then ((some (y227.drop (bt230.2.1 : Int).toNat : List Int)).bind fun y241 => (if y238.length + y241.length < 140737488355328 then (watchkeeperlaw03_MbapPieces.l0 kj7 l0 l1 t195 (y238 ++ y241) (x7_2 ++ bt230.1) (wrap64 (x8_2 + (wrap64 ((l0.length : Int) - x8_2)))) bt230.2.2 (wrap64 (x10_2 + 1))) else (none))) else (none)) else (none))) else (none)))))) else (none)) else (none)) else (none)) else (none))) = some r := by rw [if_pos rfl] at H; exact H
                  clear H
                  have H := H1
                  clear H1
                  by_cases c11 : x10_2 < (l1.length : Int)
                  · rw [if_pos c11] at H
                    have c11b0 : decide (x10_2 < (l1.length : Int)) = true := decide_eq_true c11
                    clear c11
                    by_cases c12 : 0 ≤ x10_2
                    · rw [if_pos c12] at H
                      have c12b0 : decide (0 ≤ x10_2) = true := decide_eq_true c12
                      clear c12
                      obtain ⟨ji13, hji13⟩ : ∃ j_ : Int, (mn (wrap64 (rd l1 x10_2)) (wrap64 ((l0.length : Int) - x8_2))) = j_ := ⟨_, rfl⟩
                      replace H : (if 0 ≤ x8_2 then (if x8_2 ≤ (wrap64 (x8_2 + (ji13))) then (if (wrap64 (x8_2 + (ji13))) ≤ (l0.length : Int) then (if x6_2.length + ((l0.take ((wrap64 (x8_2 + (ji13))) : Int).toNat).drop (x8_2 : Int).toNat).length < 140737488355328 then ((some (x6_2 ++ ((l0.take ((wrap64 (x8_2 + (ji13))) : Int).toNat).drop (x8_2 : Int).toNat) : List Int)).bind fun y204 => ((mbap_Cut.f y204).bind fun bt207 => (if bt207.2.1 < 0 then (some false) else (if bt207.2.1 > (y204.length : Int) then (some false) else (if x7_2.length + bt207.1.length < 4398046511104 then ((some (([] : List Int) : List Int)).bind fun y215 => (if 0 ≤ bt207.2.1 then (if bt207.2.1 ≤ (y204.length : Int) then ((some (y204.drop (bt207.2.1 : Int).toNat : List Int)).bind fun y218 => (if y215.length + y218.length < 140737488355328 then (watchkeeperlaw03_MbapPieces.l0 kj7 l0 l1 t195 (y215 ++ y218) (x7_2 ++ bt207.1) (wrap64 (x8_2 + (ji13))) bt207.2.2 (wrap64 (x10_2 + 1))) else (none))) else (none)) else (none))) else (none)))))) else (none)) else (none)) else (none)) else (none)) = some r := by first | (rw [hji13] at H; exact H) | (simp only [hji13] at H ⊢; exact H)
                      have hji13_ : (if (wrap64 ((l0.length : Int) - x8_2)) < (wrap64 (rd l1 x10_2)) then (wrap64 ((l0.length : Int) - x8_2)) else (wrap64 (rd l1 x10_2))) = ji13 := hji13
                      by_cases c14 : 0 ≤ x8_2
                      · rw [if_pos c14] at H
                        have c14b0 := eq_true c14
                        have c14b1 : decide (0 ≤ x8_2) = true := decide_eq_true c14
                        clear c14
                        by_cases c15 : x8_2 ≤ (wrap64 (x8_2 + (ji13)))
                        · rw [if_pos c15] at H
                          have c15b0 := eq_true c15
                          have c15b1 : decide (x8_2 ≤ (wrap64 (x8_2 + (ji13)))) = true := decide_eq_true c15
                          by_cases c16 : (wrap64 (x8_2 + (ji13))) ≤ (l0.length : Int)
                          · rw [if_pos c16] at H
                            have c16b0 := eq_true c16
                            have c16b1 : decide ((wrap64 (x8_2 + (ji13))) ≤ (l0.length : Int)) = true := decide_eq_true c16
                            by_cases c17 : x6_2.length + ((l0.take ((wrap64 (x8_2 + (ji13))) : Int).toNat).drop (x8_2 : Int).toNat).length < 140737488355328
                            · rw [if_pos c17] at H
                              have LMc17 := Aside0.mk c17
                              clear c17
                              obtain ⟨y204, hy204⟩ : ∃ y_ : List Int, y_ = (x6_2 ++ ((l0.take ((wrap64 (x8_2 + (ji13))) : Int).toNat).drop (x8_2 : Int).toNat)) := ⟨_, rfl⟩
                              replace H : ((mbap_Cut.f y204).bind fun bt207 => (if bt207.2.1 < 0 then (some false) else (if bt207.2.1 > (y204.length : Int) then (some false) else (if x7_2.length + bt207.1.length < 4398046511104 then ((some (([] : List Int) : List Int)).bind fun y215 => (if 0 ≤ bt207.2.1 then (if bt207.2.1 ≤ (y204.length : Int) then ((some (y204.drop (bt207.2.1 : Int).toNat : List Int)).bind fun y218 => (if y215.length + y218.length < 140737488355328 then (watchkeeperlaw03_MbapPieces.l0 kj7 l0 l1 t195 (y215 ++ y218) (x7_2 ++ bt207.1) (wrap64 (x8_2 + (ji13))) bt207.2.2 (wrap64 (x10_2 + 1))) else (none))) else (none)) else (none))) else (none))))) = some r := by first | (rw [hy204]; with_reducible exact H) | (have H2_ := (Option.bind_some _ _).symm.trans H; rw [hy204]; with_reducible exact H2_) | (have H2_ := (Option.bind_some _ _).symm.trans H; with_reducible exact H2_) | with_reducible exact H | (rw [hy204]; exact H) | exact H
                              have Ny204 := Aside0.mk hy204
                              clear hy204
                              replace H := Option.bind_eq_some_iff.mp H
                              obtain ⟨⟨t207, t208, t209⟩, A180, H⟩ := H
                              replace H : (if t208 < 0 then (some false) else (if t208 > (y204.length : Int) then (some false) else (if x7_2.length + t207.length < 4398046511104 then ((some (([] : List Int) : List Int)).bind fun y215 => (if 0 ≤ t208 then (if t208 ≤ (y204.length : Int) then ((some (y204.drop (t208 : Int).toNat : List Int)).bind fun y218 => (if y215.length + y218.length < 140737488355328 then (watchkeeperlaw03_MbapPieces.l0 kj7 l0 l1 t195 (y215 ++ y218) (x7_2 ++ t207) (wrap64 (x8_2 + (ji13))) t209 (wrap64 (x10_2 + 1))) else (none))) else (none)) else (none))) else (none)))) = some r := H
                              have A18 := Aside0.mk A180
                              clear A180
                              by_cases c19 : t208 < 0
                              · rw [if_pos c19] at H
                                have c19b0 : decide (t208 < 0) = true := decide_eq_true c19
                                clear c19
                                obtain rfl := Option.some.inj H
                                have p202 : 0 ≤ (x10_2 : Int) := of_decide_eq_true (by first | (with_reducible assumption) | assumption)
                                have q202 : x10_2 < (l1.length : Int) := of_decide_eq_true (by first | (with_reducible assumption) | assumption)
                                obtain ⟨ad202, e202, hx202_0⟩ := Kd.at_int HR1.out x10_2 p202 q202
                                cases e202
                                replace hx202_0 := (HB.out.cell (World.block_lt_of_cell? w _ hx202_0)).trans hx202_0
                                replace p202 := eq_true p202
                                replace q202 := eq_true q202
                                obtain ⟨i020, hi020, _, hsz20, _⟩ := info_parts info5
                                obtain ⟨A20, hcut20, hA20, hC20⟩ := print_mid_of (P := Try.prog) (Value.int .u8) 0 22 5 .i64 .i64 Try.underlying22 hi020 hsz20 A0 c0 l0 x8_2 (wrap64 (x8_2 + (ji13))) (of_decide_eq_true (by first | (with_reducible assumption) | assumption)) (by first | omega | exact of_decide_eq_true (by first | (with_reducible assumption) | assumption)) (of_decide_eq_true (by first | (with_reducible assumption) | assumption)) HC0.out
                                have HR203 := Aside0.mk (Kd.C_of_reads (h1 := fun _ => rfl) (hA20 _ (Kd.reads_of_C HR0.out)))
                                have HC203 := Aside0.mk hC20
                                clear hA20 hC20 hi020 hsz20
                                go_wp2_with (first | ((with_reducible refine gate_builtin (b := .append) (xs := #[.tmp 53, .tmp 59]) rfl ?_); (try (refine gate_guard (by rfl) ?_; dsimp only)); at_builtin; refine Kd.R_append_rows (Kd.int .u8) (w0 := w) w.heap.size rfl (.tmp 53) (.tmp 59) 22 5 (.int .u8 0) 1 rfl Try.underlying22 info5 rfl (by decide) (by omega) u6 x6_2 ((l0.take ((wrap64 (x8_2 + (ji13))) : Int).toNat).drop (x8_2 : Int).toNat) _ _ _ (fun _ => True) (fun _ => False) rfl rfl ?aO ?aR (fun _ _ h => h) (fun _ h => h.elim) ?aF ?aB ?aS ?aL ?_; (case aR => first | (rw [← show ((l0.take ((wrap64 (x8_2 + (ji13))) : Int).toNat).drop (x8_2 : Int).toNat).length = ((wrap64 (x8_2 + (ji13))).toNat - x8_2.toNat) from (by rw [List.length_drop, List.length_take]; have h_ : ((wrap64 (x8_2 + (ji13))) : Int) ≤ (l0.length : Int) := of_decide_eq_true (by first | (with_reducible assumption) | assumption); omega)]; repeat (first | exact (Kd.C_below HR203.out HB.out) | (with_reducible refine Kd.C_alloc ?_ _) | (with_reducible refine Kd.C_drewN ?_ _) | (with_reducible refine Kd.C_drew ?_))) | (repeat (first | exact (Kd.C_below HR203.out HB.out) | (with_reducible refine Kd.C_alloc ?_ _) | (with_reducible refine Kd.C_drewN ?_ _) | (with_reducible refine Kd.C_drew ?_)))); (case aB => exact (by repeat (first | (with_reducible first | exact HB.out | apply below_alloc | apply pw_below_drewN | apply below_drew1) | exact HB.out))); (case aF => exact (fun _ _ => trivial)); (case aO => exact (by (with_reducible repeat (first | apply Kd.R_alloc | apply Kd.R_drewN | apply Kd.R_drew)); exact HO_6.out)); (case aS => exact (below_size (by repeat (first | (with_reducible first | exact HB.out | apply below_alloc | apply pw_below_drewN | apply below_drew1) | exact HB.out)))); (case aL => have := LMc17.out; have hlx_ := (show ((l0.take ((wrap64 (x8_2 + (ji13))) : Int).toNat).drop (x8_2 : Int).toNat).length = ((wrap64 (x8_2 + (ji13))).toNat - x8_2.toNat) from (by rw [List.length_drop, List.length_take]; have h_ : ((wrap64 (x8_2 + (ji13))) : Int) ≤ (l0.length : Int) := of_decide_eq_true (by first | (with_reducible assumption) | assumption); omega)); omega); intro v205 w21 ho hb hg hat; rw [← Ny204.out] at ho; have n0_ := Aside0.mk (Kd.N_afterv (ok := (fun _ => True)) (by (with_reducible repeat (first | apply Kd.N_alloc | apply Kd.N_drewN | apply Kd.N_drew)); exact Kd.N_mono HO_7.out (fun _ hk => ⟨trivial, hk⟩)) hg hat); have n1_ := Aside0.mk (hb); have n2_ := Aside0.mk (ho); clear HO_7; clear HB; clear HO_6; have HO_7 := n0_; have HB := n1_; have HO206 := n2_; clear n0_ n1_ n2_; clear ho hb hg hat; obtain ⟨Ao22, co22, eo22⟩ := Kd.R_slice HO206.out; subst eo22) | ((with_reducible refine gate_callee (f := 13) rfl ?_); refine goesL_ (some 66) rfl rfl Try.func13 (by kernel_rfl) rfl #[.slice Ao22 y204.length co22] rfl (by (try simp only [List.map_toArray, List.map_cons, List.map_nil]); first | done | rfl | (simp only [List.length_drop, List.length_take]; rfl)) ?_; (with_reducible refine (mbap_Cut.calls _ _ y204 t207 t208 t209 _ ?side1 ?side2 A18.out).mono ?_); (case side1 => repeat (first | exact (Kd.R_reads' HO206.out).2.2 | (with_reducible refine Kd.C_alloc ?_ _) | (with_reducible refine Kd.C_drewN ?_ _) | (with_reducible refine Kd.C_drew ?_))); (case side2 => exact (Kd.R_reads' HO206.out).2.1); rintro e w23 ⟨v210, rfl, ho0, hb⟩; refine ⟨_, rfl, ?_⟩; have n0_ := Aside0.mk (Kd.N_elder' (by (with_reducible repeat (first | apply Kd.N_alloc | apply Kd.N_drewN | apply Kd.N_drew)); exact HO_7.out) (Kd.S_base ho0) hb); have n1_ := Aside0.mk (Kd.R_below (by (with_reducible repeat (first | apply Kd.R_alloc | apply Kd.R_drewN | apply Kd.R_drew)); exact HO206.out) hb); have n2_ := Aside0.mk (Kd.N_lower (Kd.N_mono (ok' := fun k_ => some k_ ≠ (u7 : Value).ownBlock ∧ some k_ ≠ (.slice Ao22 y204.length co22 : Value).ownBlock) (Kd.S_N (Kd.S_bound ho0)) (fun k_ hk_ => ⟨(Kd.fresh' (Kd.N_lt (by (with_reducible repeat (first | apply Kd.N_alloc | apply Kd.N_drewN | apply Kd.N_drew)); exact HO_7.out)) k_ hk_.2.1), (Kd.fresh' (Kd.R_lt (by (with_reducible repeat (first | apply Kd.R_alloc | apply Kd.R_drewN | apply Kd.R_drew)); exact HO206.out)) k_ hk_.2.1)⟩)) (below_size (by repeat (first | (with_reducible first | exact HB.out | apply below_alloc | apply pw_below_drewN | apply below_drew1) | exact HB.out)))); have n3_ := Aside0.mk (below_step (by repeat (first | (with_reducible first | exact HB.out | apply below_alloc | apply pw_below_drewN | apply below_drew1) | exact HB.out)) hb); clear HO_7; clear HO206; clear HB; have HO_7 := n0_; have HO206 := n1_; have HO211 := n2_; have HB := n3_; clear n0_ n1_ n2_ n3_; (try clear hb); (try clear hb2); (try clear hgn); (try clear hk); (try clear hi); (try clear ho0)))
                                go_ret
                                exact ⟨by first | rfl | (simp [errW_none, errW_some] <;> rfl) | (simp only [← hji13]; first | rfl | (simp [errW_none, errW_some] <;> rfl)) | (simp [*, errW_none, errW_some] <;> rfl), by repeat (first | (with_reducible first | exact HB.out | apply below_alloc | apply pw_below_drewN | apply below_drew1) | exact HB.out)⟩
                              · rw [if_neg c19] at H
                                have c19b0 : decide (t208 < 0) = false := decide_eq_false c19
                                clear c19
                                by_cases c24 : t208 > (y204.length : Int)
                                · rw [if_pos c24] at H
                                  have c24b0 : decide ((y204.length : Int) < t208) = true := decide_eq_true c24
                                  clear c24
                                  obtain rfl := Option.some.inj H
                                  have p202 : 0 ≤ (x10_2 : Int) := of_decide_eq_true (by first | (with_reducible assumption) | assumption)
                                  have q202 : x10_2 < (l1.length : Int) := of_decide_eq_true (by first | (with_reducible assumption) | assumption)
                                  obtain ⟨ad202, e202, hx202_0⟩ := Kd.at_int HR1.out x10_2 p202 q202
                                  cases e202
                                  replace hx202_0 := (HB.out.cell (World.block_lt_of_cell? w _ hx202_0)).trans hx202_0
                                  replace p202 := eq_true p202
                                  replace q202 := eq_true q202
                                  obtain ⟨i025, hi025, _, hsz25, _⟩ := info_parts info5
                                  obtain ⟨A25, hcut25, hA25, hC25⟩ := print_mid_of (P := Try.prog) (Value.int .u8) 0 22 5 .i64 .i64 Try.underlying22 hi025 hsz25 A0 c0 l0 x8_2 (wrap64 (x8_2 + (ji13))) (of_decide_eq_true (by first | (with_reducible assumption) | assumption)) (by first | omega | exact of_decide_eq_true (by first | (with_reducible assumption) | assumption)) (of_decide_eq_true (by first | (with_reducible assumption) | assumption)) HC0.out
                                  have HR203 := Aside0.mk (Kd.C_of_reads (h1 := fun _ => rfl) (hA25 _ (Kd.reads_of_C HR0.out)))
                                  have HC203 := Aside0.mk hC25
                                  clear hA25 hC25 hi025 hsz25
                                  go_wp2_with (first | ((with_reducible refine gate_builtin (b := .append) (xs := #[.tmp 53, .tmp 59]) rfl ?_); (try (refine gate_guard (by rfl) ?_; dsimp only)); at_builtin; refine Kd.R_append_rows (Kd.int .u8) (w0 := w) w.heap.size rfl (.tmp 53) (.tmp 59) 22 5 (.int .u8 0) 1 rfl Try.underlying22 info5 rfl (by decide) (by omega) u6 x6_2 ((l0.take ((wrap64 (x8_2 + (ji13))) : Int).toNat).drop (x8_2 : Int).toNat) _ _ _ (fun _ => True) (fun _ => False) rfl rfl ?aO ?aR (fun _ _ h => h) (fun _ h => h.elim) ?aF ?aB ?aS ?aL ?_; (case aR => first | (rw [← show ((l0.take ((wrap64 (x8_2 + (ji13))) : Int).toNat).drop (x8_2 : Int).toNat).length = ((wrap64 (x8_2 + (ji13))).toNat - x8_2.toNat) from (by rw [List.length_drop, List.length_take]; have h_ : ((wrap64 (x8_2 + (ji13))) : Int) ≤ (l0.length : Int) := of_decide_eq_true (by first | (with_reducible assumption) | assumption); omega)]; repeat (first | exact (Kd.C_below HR203.out HB.out) | (with_reducible refine Kd.C_alloc ?_ _) | (with_reducible refine Kd.C_drewN ?_ _) | (with_reducible refine Kd.C_drew ?_))) | (repeat (first | exact (Kd.C_below HR203.out HB.out) | (with_reducible refine Kd.C_alloc ?_ _) | (with_reducible refine Kd.C_drewN ?_ _) | (with_reducible refine Kd.C_drew ?_)))); (case aB => exact (by repeat (first | (with_reducible first | exact HB.out | apply below_alloc | apply pw_below_drewN | apply below_drew1) | exact HB.out))); (case aF => exact (fun _ _ => trivial)); (case aO => exact (by (with_reducible repeat (first | apply Kd.R_alloc | apply Kd.R_drewN | apply Kd.R_drew)); exact HO_6.out)); (case aS => exact (below_size (by repeat (first | (with_reducible first | exact HB.out | apply below_alloc | apply pw_below_drewN | apply below_drew1) | exact HB.out)))); (case aL => have := LMc17.out; have hlx_ := (show ((l0.take ((wrap64 (x8_2 + (ji13))) : Int).toNat).drop (x8_2 : Int).toNat).length = ((wrap64 (x8_2 + (ji13))).toNat - x8_2.toNat) from (by rw [List.length_drop, List.length_take]; have h_ : ((wrap64 (x8_2 + (ji13))) : Int) ≤ (l0.length : Int) := of_decide_eq_true (by first | (with_reducible assumption) | assumption); omega)); omega); intro v205 w26 ho hb hg hat; rw [← Ny204.out] at ho; have n0_ := Aside0.mk (Kd.N_afterv (ok := (fun _ => True)) (by (with_reducible repeat (first | apply Kd.N_alloc | apply Kd.N_drewN | apply Kd.N_drew)); exact Kd.N_mono HO_7.out (fun _ hk => ⟨trivial, hk⟩)) hg hat); have n1_ := Aside0.mk (hb); have n2_ := Aside0.mk (ho); clear HO_7; clear HB; clear HO_6; have HO_7 := n0_; have HB := n1_; have HO206 := n2_; clear n0_ n1_ n2_; clear ho hb hg hat; obtain ⟨Ao27, co27, eo27⟩ := Kd.R_slice HO206.out; subst eo27) | ((with_reducible refine gate_callee (f := 13) rfl ?_); refine goesL_ (some 66) rfl rfl Try.func13 (by kernel_rfl) rfl #[.slice Ao27 y204.length co27] rfl (by (try simp only [List.map_toArray, List.map_cons, List.map_nil]); first | done | rfl | (simp only [List.length_drop, List.length_take]; rfl)) ?_; (with_reducible refine (mbap_Cut.calls _ _ y204 t207 t208 t209 _ ?side1 ?side2 A18.out).mono ?_); (case side1 => repeat (first | exact (Kd.R_reads' HO206.out).2.2 | (with_reducible refine Kd.C_alloc ?_ _) | (with_reducible refine Kd.C_drewN ?_ _) | (with_reducible refine Kd.C_drew ?_))); (case side2 => exact (Kd.R_reads' HO206.out).2.1); rintro e w28 ⟨v210, rfl, ho0, hb⟩; refine ⟨_, rfl, ?_⟩; have n0_ := Aside0.mk (Kd.N_elder' (by (with_reducible repeat (first | apply Kd.N_alloc | apply Kd.N_drewN | apply Kd.N_drew)); exact HO_7.out) (Kd.S_base ho0) hb); have n1_ := Aside0.mk (Kd.R_below (by (with_reducible repeat (first | apply Kd.R_alloc | apply Kd.R_drewN | apply Kd.R_drew)); exact HO206.out) hb); have n2_ := Aside0.mk (Kd.N_lower (Kd.N_mono (ok' := fun k_ => some k_ ≠ (u7 : Value).ownBlock ∧ some k_ ≠ (.slice Ao27 y204.length co27 : Value).ownBlock) (Kd.S_N (Kd.S_bound ho0)) (fun k_ hk_ => ⟨(Kd.fresh' (Kd.N_lt (by (with_reducible repeat (first | apply Kd.N_alloc | apply Kd.N_drewN | apply Kd.N_drew)); exact HO_7.out)) k_ hk_.2.1), (Kd.fresh' (Kd.R_lt (by (with_reducible repeat (first | apply Kd.R_alloc | apply Kd.R_drewN | apply Kd.R_drew)); exact HO206.out)) k_ hk_.2.1)⟩)) (below_size (by repeat (first | (with_reducible first | exact HB.out | apply below_alloc | apply pw_below_drewN | apply below_drew1) | exact HB.out)))); have n3_ := Aside0.mk (below_step (by repeat (first | (with_reducible first | exact HB.out | apply below_alloc | apply pw_below_drewN | apply below_drew1) | exact HB.out)) hb); clear HO_7; clear HO206; clear HB; have HO_7 := n0_; have HO206 := n1_; have HO211 := n2_; have HB := n3_; clear n0_ n1_ n2_ n3_; (try clear hb); (try clear hb2); (try clear hgn); (try clear hk); (try clear hi); (try clear ho0)))
                                  go_ret
                                  exact ⟨by first | rfl | (simp [errW_none, errW_some] <;> rfl) | (simp only [← hji13]; first | rfl | (simp [errW_none, errW_some] <;> rfl)) | (simp [*, errW_none, errW_some] <;> rfl), by repeat (first | (with_reducible first | exact HB.out | apply below_alloc | apply pw_below_drewN | apply below_drew1) | exact HB.out)⟩
                                · rw [if_neg c24] at H
                                  have c24b0 : decide ((y204.length : Int) < t208) = false := decide_eq_false c24
                                  clear c24
                                  by_cases c29 : x7_2.length + t207.length < 4398046511104
                                  · rw [if_pos c29] at H
                                    have LMc29 := Aside0.mk c29
                                    clear c29
                                    obtain ⟨y212, hy212⟩ : ∃ y_ : List (S26), y_ = (x7_2 ++ t207) := ⟨_, rfl⟩
                                    replace H : ((some (([] : List Int) : List Int)).bind fun y215 => (if 0 ≤ t208 then (if t208 ≤ (y204.length : Int) then ((some (y204.drop (t208 : Int).toNat : List Int)).bind fun y218 => (if y215.length + y218.length < 140737488355328 then (watchkeeperlaw03_MbapPieces.l0 kj7 l0 l1 t195 (y215 ++ y218) y212 (wrap64 (x8_2 + (ji13))) t209 (wrap64 (x10_2 + 1))) else (none))) else (none)) else (none))) = some r := by first | (rw [hy212]; with_reducible exact H) | (have H2_ := (Option.bind_some _ _).symm.trans H; rw [hy212]; with_reducible exact H2_) | (have H2_ := (Option.bind_some _ _).symm.trans H; with_reducible exact H2_) | with_reducible exact H | (rw [hy212]; exact H) | exact H
                                    have Ny212 := Aside0.mk hy212
                                    clear hy212
                                    obtain ⟨y215, hy215⟩ : ∃ y_ : List Int, y_ = (([] : List Int)) := ⟨_, rfl⟩
                                    replace H : (if 0 ≤ t208 then (if t208 ≤ (y204.length : Int) then ((some (y204.drop (t208 : Int).toNat : List Int)).bind fun y218 => (if y215.length + y218.length < 140737488355328 then (watchkeeperlaw03_MbapPieces.l0 kj7 l0 l1 t195 (y215 ++ y218) y212 (wrap64 (x8_2 + (ji13))) t209 (wrap64 (x10_2 + 1))) else (none))) else (none)) else (none)) = some r := by first | (rw [hy215]; with_reducible exact H) | (have H2_ := (Option.bind_some _ _).symm.trans H; rw [hy215]; with_reducible exact H2_) | (have H2_ := (Option.bind_some _ _).symm.trans H; with_reducible exact H2_) | with_reducible exact H | (rw [hy215]; exact H) | exact H
                                    have Ny215 := Aside0.mk hy215
                                    clear hy215
                                    by_cases c30 : 0 ≤ t208
                                    · rw [if_pos c30] at H
                                      have c30b0 := eq_true c30
                                      have c30b1 : decide (0 ≤ t208) = true := decide_eq_true c30
                                      clear c30
                                      by_cases c31 : t208 ≤ (y204.length : Int)
                                      · rw [if_pos c31] at H
                                        have c31b0 := eq_true c31
                                        have c31b1 : decide (t208 ≤ (y204.length : Int)) = true := decide_eq_true c31
                                        clear c31
                                        obtain ⟨y218, hy218⟩ : ∃ y_ : List Int, y_ = (y204.drop (t208 : Int).toNat) := ⟨_, rfl⟩
                                        replace H : (if y215.length + y218.length < 140737488355328 then (watchkeeperlaw03_MbapPieces.l0 kj7 l0 l1 t195 (y215 ++ y218) y212 (wrap64 (x8_2 + (ji13))) t209 (wrap64 (x10_2 + 1))) else (none)) = some r := by first | (rw [hy218]; with_reducible exact H) | (have H2_ := (Option.bind_some _ _).symm.trans H; rw [hy218]; with_reducible exact H2_) | (have H2_ := (Option.bind_some _ _).symm.trans H; with_reducible exact H2_) | with_reducible exact H | (rw [hy218]; exact H) | exact H
                                        have Ny218 := Aside0.mk hy218
                                        clear hy218
                                        by_cases c32 : y215.length + y218.length < 140737488355328
                                        · rw [if_pos c32] at H
                                          have LMc32 := Aside0.mk c32
                                          clear c32
                                          obtain ⟨y223, hy223⟩ : ∃ y_ : List Int, y_ = (y215 ++ y218) := ⟨_, rfl⟩
                                          replace H : (watchkeeperlaw03_MbapPieces.l0 kj7 l0 l1 t195 y223 y212 (wrap64 (x8_2 + (ji13))) t209 (wrap64 (x10_2 + 1))) = some r := by first | (rw [hy223]; with_reducible exact H) | (have H2_ := (Option.bind_some _ _).symm.trans H; rw [hy223]; with_reducible exact H2_) | (have H2_ := (Option.bind_some _ _).symm.trans H; with_reducible exact H2_) | with_reducible exact H | (rw [hy223]; exact H) | exact H
                                          have Ny223 := Aside0.mk hy223
                                          clear hy223
                                          have H' := Aside0.mk H
                                          clear H
                                          have p202 : 0 ≤ (x10_2 : Int) := of_decide_eq_true (by first | (with_reducible assumption) | assumption)
                                          have q202 : x10_2 < (l1.length : Int) := of_decide_eq_true (by first | (with_reducible assumption) | assumption)
                                          obtain ⟨ad202, e202, hx202_0⟩ := Kd.at_int HR1.out x10_2 p202 q202
                                          cases e202
                                          replace hx202_0 := (HB.out.cell (World.block_lt_of_cell? w _ hx202_0)).trans hx202_0
                                          replace p202 := eq_true p202
                                          replace q202 := eq_true q202
                                          obtain ⟨i033, hi033, _, hsz33, _⟩ := info_parts info5
                                          obtain ⟨A33, hcut33, hA33, hC33⟩ := print_mid_of (P := Try.prog) (Value.int .u8) 0 22 5 .i64 .i64 Try.underlying22 hi033 hsz33 A0 c0 l0 x8_2 (wrap64 (x8_2 + (ji13))) (of_decide_eq_true (by first | (with_reducible assumption) | assumption)) (by first | omega | exact of_decide_eq_true (by first | (with_reducible assumption) | assumption)) (of_decide_eq_true (by first | (with_reducible assumption) | assumption)) HC0.out
                                          have HR203 := Aside0.mk (Kd.C_of_reads (h1 := fun _ => rfl) (hA33 _ (Kd.reads_of_C HR0.out)))
                                          have HC203 := Aside0.mk hC33
                                          clear hA33 hC33 hi033 hsz33
                                          go_wp2_with (first | ((with_reducible refine gate_builtin (b := .append) (xs := #[.tmp 53, .tmp 59]) rfl ?_); (try (refine gate_guard (by rfl) ?_; dsimp only)); at_builtin; refine Kd.R_append_rows (Kd.int .u8) (w0 := w) w.heap.size rfl (.tmp 53) (.tmp 59) 22 5 (.int .u8 0) 1 rfl Try.underlying22 info5 rfl (by decide) (by omega) u6 x6_2 ((l0.take ((wrap64 (x8_2 + (ji13))) : Int).toNat).drop (x8_2 : Int).toNat) _ _ _ (fun _ => True) (fun _ => False) rfl rfl ?aO ?aR (fun _ _ h => h) (fun _ h => h.elim) ?aF ?aB ?aS ?aL ?_; (case aR => first | (rw [← show ((l0.take ((wrap64 (x8_2 + (ji13))) : Int).toNat).drop (x8_2 : Int).toNat).length = ((wrap64 (x8_2 + (ji13))).toNat - x8_2.toNat) from (by rw [List.length_drop, List.length_take]; have h_ : ((wrap64 (x8_2 + (ji13))) : Int) ≤ (l0.length : Int) := of_decide_eq_true (by first | (with_reducible assumption) | assumption); omega)]; repeat (first | exact (Kd.C_below HR203.out HB.out) | (with_reducible refine Kd.C_alloc ?_ _) | (with_reducible refine Kd.C_drewN ?_ _) | (with_reducible refine Kd.C_drew ?_))) | (repeat (first | exact (Kd.C_below HR203.out HB.out) | (with_reducible refine Kd.C_alloc ?_ _) | (with_reducible refine Kd.C_drewN ?_ _) | (with_reducible refine Kd.C_drew ?_)))); (case aB => exact (by repeat (first | (with_reducible first | exact HB.out | apply below_alloc | apply pw_below_drewN | apply below_drew1) | exact HB.out))); (case aF => exact (fun _ _ => trivial)); (case aO => exact (by (with_reducible repeat (first | apply Kd.R_alloc | apply Kd.R_drewN | apply Kd.R_drew)); exact HO_6.out)); (case aS => exact (below_size (by repeat (first | (with_reducible first | exact HB.out | apply below_alloc | apply pw_below_drewN | apply below_drew1) | exact HB.out)))); (case aL => have := LMc17.out; have hlx_ := (show ((l0.take ((wrap64 (x8_2 + (ji13))) : Int).toNat).drop (x8_2 : Int).toNat).length = ((wrap64 (x8_2 + (ji13))).toNat - x8_2.toNat) from (by rw [List.length_drop, List.length_take]; have h_ : ((wrap64 (x8_2 + (ji13))) : Int) ≤ (l0.length : Int) := of_decide_eq_true (by first | (with_reducible assumption) | assumption); omega)); omega); intro v205 w34 ho hb hg hat; rw [← Ny204.out] at ho; have n0_ := Aside0.mk (Kd.N_afterv (ok := (fun _ => True)) (by (with_reducible repeat (first | apply Kd.N_alloc | apply Kd.N_drewN | apply Kd.N_drew)); exact Kd.N_mono HO_7.out (fun _ hk => ⟨trivial, hk⟩)) hg hat); have n1_ := Aside0.mk (hb); have n2_ := Aside0.mk (ho); clear HO_7; clear HB; clear HO_6; have HO_7 := n0_; have HB := n1_; have HO206 := n2_; clear n0_ n1_ n2_; clear ho hb hg hat; obtain ⟨Ao35, co35, eo35⟩ := Kd.R_slice HO206.out; subst eo35) | ((with_reducible refine gate_callee (f := 13) rfl ?_); refine goesL_ (some 66) rfl rfl Try.func13 (by kernel_rfl) rfl #[.slice Ao35 y204.length co35] rfl (by (try simp only [List.map_toArray, List.map_cons, List.map_nil]); first | done | rfl | (simp only [List.length_drop, List.length_take]; rfl)) ?_; (with_reducible refine (mbap_Cut.calls _ _ y204 t207 t208 t209 _ ?side1 ?side2 A18.out).mono ?_); (case side1 => repeat (first | exact (Kd.R_reads' HO206.out).2.2 | (with_reducible refine Kd.C_alloc ?_ _) | (with_reducible refine Kd.C_drewN ?_ _) | (with_reducible refine Kd.C_drew ?_))); (case side2 => exact (Kd.R_reads' HO206.out).2.1); rintro e w36 ⟨v210, rfl, ho0, hb⟩; refine ⟨_, rfl, ?_⟩; have n0_ := Aside0.mk (Kd.N_elder' (by (with_reducible repeat (first | apply Kd.N_alloc | apply Kd.N_drewN | apply Kd.N_drew)); exact HO_7.out) (Kd.S_base ho0) hb); have n1_ := Aside0.mk (Kd.R_below (by (with_reducible repeat (first | apply Kd.R_alloc | apply Kd.R_drewN | apply Kd.R_drew)); exact HO206.out) hb); have n2_ := Aside0.mk (Kd.N_lower (Kd.N_mono (ok' := fun k_ => some k_ ≠ (u7 : Value).ownBlock ∧ some k_ ≠ (.slice Ao35 y204.length co35 : Value).ownBlock) (Kd.S_N (Kd.S_bound ho0)) (fun k_ hk_ => ⟨(Kd.fresh' (Kd.N_lt (by (with_reducible repeat (first | apply Kd.N_alloc | apply Kd.N_drewN | apply Kd.N_drew)); exact HO_7.out)) k_ hk_.2.1), (Kd.fresh' (Kd.R_lt (by (with_reducible repeat (first | apply Kd.R_alloc | apply Kd.R_drewN | apply Kd.R_drew)); exact HO206.out)) k_ hk_.2.1)⟩)) (below_size (by repeat (first | (with_reducible first | exact HB.out | apply below_alloc | apply pw_below_drewN | apply below_drew1) | exact HB.out)))); have n3_ := Aside0.mk (below_step (by repeat (first | (with_reducible first | exact HB.out | apply below_alloc | apply pw_below_drewN | apply below_drew1) | exact HB.out)) hb); clear HO_7; clear HO206; clear HB; have HO_7 := n0_; have HO206 := n1_; have HO211 := n2_; have HB := n3_; clear n0_ n1_ n2_ n3_; (try clear hb); (try clear hb2); (try clear hgn); (try clear hk); (try clear hi); (try clear ho0); obtain ⟨Ao38, co38, eo38⟩ := Kd.N_slice HO211.out; subst eo38) | ((with_reducible refine gate_builtin (b := .append) (xs := #[.tmp 78, .tmp 79]) rfl ?_); (try (refine gate_guard (by rfl) ?_; dsimp only)); at_builtin; refine Kd.N_append_rows k26 (w0 := w) w.heap.size rfl (.tmp 78) (.tmp 79) 32 26 (.agg #[(.int .u16 0), (.int .u8 0), (.slice none 0 0)]) 32 rfl Try.underlying32 info26 rfl (by decide) (by omega) u7 x7_2 t207 _ _ _ (fun k_ => some k_ ≠ (.slice Ao35 y204.length co35 : Value).ownBlock) (fun k_ => ((fun k_ => some k_ ≠ (.slice Ao35 y204.length co35 : Value).ownBlock)) k_ ∧ some k_ ≠ (u7 : Value).ownBlock) rfl rfl ?aO ?aR (fun _ hk => hk) ?aF ?aB ?aS ?aL ?_; (case aR => exact (by skip; exact Kd.N_F (Kd.N_mono (ok' := (fun k_ => ((fun k_ => some k_ ≠ (.slice Ao35 y204.length co35 : Value).ownBlock)) k_ ∧ some k_ ≠ (u7 : Value).ownBlock)) (HO211.out) (fun k_ hk => ⟨hk.2, hk.1⟩)))); (case aB => exact (by repeat (first | (with_reducible first | exact HB.out | apply below_alloc | apply pw_below_drewN | apply below_drew1) | exact HB.out))); (case aF => exact (fun k_ hk => Kd.fresh' (Kd.R_lt (by (with_reducible repeat (first | apply Kd.R_alloc | apply Kd.R_drewN | apply Kd.R_drew)); exact HO206.out)) k_ hk)); (case aO => exact (by (with_reducible repeat (first | apply Kd.N_alloc | apply Kd.N_drewN | apply Kd.N_drew)); exact Kd.N_mono HO_7.out (fun _ hk => hk.1.2))); (case aS => exact (below_size (by repeat (first | (with_reducible first | exact HB.out | apply below_alloc | apply pw_below_drewN | apply below_drew1) | exact HB.out)))); (case aL => have := LMc29.out; omega); intro v213 w37 ho hb hg hat; rw [← Ny212.out] at ho; have n0_ := Aside0.mk (Kd.R_over' (by (with_reducible repeat (first | apply Kd.R_alloc | apply Kd.R_drewN | apply Kd.R_drew)); exact HO206.out) (Kd.N_typed (by (with_reducible repeat (first | apply Kd.N_alloc | apply Kd.N_drewN | apply Kd.N_drew)); exact HO_7.out)) (by decide) hg); have n1_ := Aside0.mk (Kd.N_afterv (ok := (fun k_ => some k_ ≠ (.slice Ao35 y204.length co35 : Value).ownBlock)) (by (with_reducible repeat (first | apply Kd.N_alloc | apply Kd.N_drewN | apply Kd.N_drew)); exact Kd.N_mono HO211.out (fun _ hk => ⟨hk.2, hk.1⟩)) hg hat); have n2_ := Aside0.mk (hb); have n3_ := Aside0.mk (ho); clear HO206; clear HO211; clear HB; clear HO_7; have HO206 := n0_; have HO211 := n1_; have HB := n2_; have HO214 := n3_; clear n0_ n1_ n2_ n3_; clear ho hb hg hat) | ((with_reducible refine gate_dst (N := 81) rfl ?_); (try (refine gate_guard (by rfl) ?_; dsimp only)); refine Kd.R_lit (Kd.int .u8) _ 5 ?hg (N := 81) ?hd (xs := ([] : List Int)) (inner := []) (ok := fun _ => True) (okp := fun _ => True) ?hr ?hp (fun _ hk => hk) trivial (Below.refl _ _) (Nat.le_refl _) (by simp) ?_; (case hd => rfl); (case hg => rfl); (case hr => first | (go_simp; done) | (go_simp; rfl)); (case hp => exact (Reps.none _ _)); intro v216 w39 ho40 hb hg_ hnew_; clear hg_ hnew_; (first | rw [← Ny215.out] at ho40 | (simp only [Int.reduceToNat] at ho40; rw [← Ny215.out] at ho40)); have n0_ := Aside0.mk (Kd.R_elder' (by (with_reducible repeat (first | apply Kd.R_alloc | apply Kd.R_drewN | apply Kd.R_drew)); exact HO206.out) (Kd.R_base ho40) hb); have n1_ := Aside0.mk (Kd.N_elder' (by (with_reducible repeat (first | apply Kd.N_alloc | apply Kd.N_drewN | apply Kd.N_drew)); exact HO211.out) (Kd.R_base ho40) hb); have n2_ := Aside0.mk (Kd.N_elder' (by (with_reducible repeat (first | apply Kd.N_alloc | apply Kd.N_drewN | apply Kd.N_drew)); exact HO214.out) (Kd.R_base ho40) hb); have n3_ := Aside0.mk (Kd.R_lower (Kd.R_new' ho40 (Kd.R_lt (by (with_reducible repeat (first | apply Kd.R_alloc | apply Kd.R_drewN | apply Kd.R_drew)); exact HO206.out))) (below_size (by repeat (first | (with_reducible first | exact HB.out | apply below_alloc | apply pw_below_drewN | apply below_drew1) | exact HB.out)))); have n4_ := Aside0.mk (below_step (by repeat (first | (with_reducible first | exact HB.out | apply below_alloc | apply pw_below_drewN | apply below_drew1) | exact HB.out)) hb); clear HO206; clear HO211; clear HO214; clear HB; have HO206 := n0_; have HO211 := n1_; have HO214 := n2_; have HO217 := n3_; have HB := n4_; clear n0_ n1_ n2_ n3_ n4_; clear hb ho40; have q41 : (t208 : Int) ≤ ((y204.length : Int) : Int) := of_decide_eq_true (by first | (with_reducible assumption) | assumption); obtain ⟨i041, hi041, _, hsz41, _⟩ := info_parts info5; have hroom41 : y204.length ≤ co35 := (Kd.R_reads' HO206.out).2.1; have hC41 : Kd.F (Kd.int .u8) _ _ Ao35 y204.length y204 := (Kd.V_at (base := w.heap.size) (Kd.R_V (Kd.R_apart' (Kd.R_apart' (HO206.out) (Kd.N_typed HO211.out) (by decide)) (Kd.N_typed HO214.out) (by decide)))).2.2; have q041 : (0 : Int) ≤ (t208 : Int) := of_decide_eq_true (by first | (with_reducible assumption) | assumption); have hcut41 := cut_from (P := Try.prog) 22 5 .i64 Try.underlying22 hi041 1 hsz41 Ao35 y204.length co35 t208 q041 q41; have hr41 := Kd.F_cut (m := (t208 : Int).toNat) (c := co35) hC41 (by omega) hroom41; obtain ⟨A41, hA41⟩ : ∃ A1, A1 = (if co35 = (t208 : Int).toNat then Ao35 else (Ao35 : Option Addr).map (·.add ((t208 : Int).toNat * 1))) := ⟨_, rfl⟩; obtain ⟨c41, hc41⟩ : ∃ c1, c1 = co35 - (t208 : Int).toNat := ⟨_, rfl⟩; have hy41 : y218.length = y204.length - (t208 : Int).toNat := (by rw [Ny218.out, List.length_drop] <;> omega); rw [show (y204).drop (t208 : Int).toNat = y218 from Ny218.out.symm] at hr41; replace hr41 : Kd.F (Kd.int .u8) _ _ A41 y218.length y218 := (by rw [hA41]; exact hr41); rw [← hy41, ← hA41, ← hc41] at hcut41; have HO222 := Aside0.mk (show Kd.V (Kd.int .u8) 5 _ w.heap.size _ (.slice A41 y218.length c41) y218 from Kd.V_mk (by rw [hy41, hc41]; exact Nat.sub_le_sub_right hroom41 _) hr41); have HC222 := Aside0.mk (show y218.length ≤ c41 from by rw [hy41, hc41]; exact Nat.sub_le_sub_right hroom41 _); clear hr41 hC41 hroom41 hi041 hsz41 hc41; have KY41 := Aside0.mk hy41; have KA41 := Aside0.mk hA41; clear hy41 hA41; replace q41 := eq_true q41) | ((with_reducible refine gate_builtin (b := .append) (xs := #[.tmp 81, .tmp 84]) rfl ?_); (try (refine gate_guard (by rfl) ?_; dsimp only)); at_builtin; refine Kd.R_append_rows (Kd.int .u8) (w0 := w) w.heap.size rfl (.tmp 81) (.tmp 84) 22 5 (.int .u8 0) 1 rfl Try.underlying22 info5 rfl (by decide) (by omega) v216 y215 y218 _ _ _ (fun k_ => some k_ ≠ (.slice Ao35 y204.length co35 : Value).ownBlock) (fun _ => False) rfl rfl ?aO ?aR (fun _ _ h => h) (fun _ h => h.elim) ?aF ?aB ?aS ?aL ?_; (case aR => repeat (first | exact (Kd.V_reads' HO222.out).2.2 | (with_reducible refine Kd.C_alloc ?_ _) | (with_reducible refine Kd.C_drewN ?_ _) | (with_reducible refine Kd.C_drew ?_))); (case aB => exact (by repeat (first | (with_reducible first | exact HB.out | apply below_alloc | apply pw_below_drewN | apply below_drew1) | exact HB.out))); (case aF => exact (fun k_ hk => Kd.fresh' (Kd.R_lt (by (with_reducible repeat (first | apply Kd.R_alloc | apply Kd.R_drewN | apply Kd.R_drew)); exact HO206.out)) k_ hk)); (case aO => exact (by (with_reducible repeat (first | apply Kd.R_alloc | apply Kd.R_drewN | apply Kd.R_drew)); exact Kd.R_mono HO217.out (fun _ hk => hk.2))); (case aS => exact (below_size (by repeat (first | (with_reducible first | exact HB.out | apply below_alloc | apply pw_below_drewN | apply below_drew1) | exact HB.out)))); (case aL => have := LMc32.out; omega); intro v224 w42 ho hb hg hat; rw [← Ny223.out] at ho; have n0_ := Aside0.mk (Kd.R_after (ok := (fun _ => True)) (by (with_reducible repeat (first | apply Kd.R_alloc | apply Kd.R_drewN | apply Kd.R_drew)); exact HO206.out) hg hat); have n1_ := Aside0.mk (Kd.N_afterv (ok := (fun k_ => some k_ ≠ (.slice Ao35 y204.length co35 : Value).ownBlock ∧ some k_ ≠ (v213 : Value).ownBlock)) (by (with_reducible repeat (first | apply Kd.N_alloc | apply Kd.N_drewN | apply Kd.N_drew)); exact HO211.out) hg hat); have n2_ := Aside0.mk (Kd.N_afterv (ok := (fun k_ => some k_ ≠ (.slice Ao35 y204.length co35 : Value).ownBlock)) (by (with_reducible repeat (first | apply Kd.N_alloc | apply Kd.N_drewN | apply Kd.N_drew)); exact HO214.out) hg hat); have n3_ := Aside0.mk (Kd.V_afterv (ok := (fun k_ => some k_ ≠ (.slice Ao38 t207.length co38 : Value).ownBlock ∧ some k_ ≠ (v213 : Value).ownBlock)) (by (with_reducible repeat (first | apply Kd.V_alloc | apply Kd.V_drewN | apply Kd.V_drew)); exact Kd.V_mono HO222.out (fun _ hk => ⟨⟨hk.1.2, hk.2⟩, hk.1.1.2⟩)) hg hat); have n4_ := Aside0.mk (hb); have n5_ := Aside0.mk (ho); clear HO206; clear HO211; clear HO214; clear HO222; clear HB; clear HO217; have HO206 := n0_; have HO211 := n1_; have HO214 := n2_; have HO222 := n3_; have HB := n4_; have HO225 := n5_; clear n0_ n1_ n2_ n3_ n4_ n5_; clear ho hb hg hat))
                                          go_roundg kj7
                                          case measure => have := HJ3.out; have := HK2.out; have := HJ7.out; omega
                                          case rel => exact ⟨(y223), (y212), (wrap64 (x8_2 + (ji13))), (t209), (wrap64 (x10_2 + 1)), (by first | rfl | (simp; done) | (simp only [← hji13] <;> (first | rfl | simp)) | (simp [*]; done)), (by first | rfl | (simp; done) | (simp [*]; done)), (by first | rfl | (simp; done) | (simp [*]; done)), H', ⟨by have := HJ3.out; have := HK2.out; have := HJ7.out; omega⟩, ⟨by (with_reducible repeat (first | apply Kd.R_alloc | apply Kd.R_drewN | apply Kd.R_drew)); exact Kd.R_mono HO225.out (fun _ hk => trivial)⟩, ⟨by (with_reducible repeat (first | apply Kd.N_alloc | apply Kd.N_drewN | apply Kd.N_drew)); exact Kd.N_mono HO214.out (fun _ hk => hk.2)⟩, ⟨by repeat (first | (with_reducible first | exact HB.out | apply below_alloc | apply pw_below_drewN | apply below_drew1) | exact HB.out)⟩⟩
                                        · rw [if_neg c32] at H
                                          exact absurd H (by simp)
                                      · rw [if_neg c31] at H
                                        exact absurd H (by simp)
                                    · rw [if_neg c30] at H
                                      exact absurd H (by simp)
                                  · rw [if_neg c29] at H
                                    exact absurd H (by simp)
                            · rw [if_neg c17] at H
                              exact absurd H (by simp)
                          · rw [if_neg c16] at H
                            exact absurd H (by simp)
                        · rw [if_neg c15] at H
                          exact absurd H (by simp)
                      · rw [if_neg c14] at H
                        exact absurd H (by simp)
                    · rw [if_neg c12] at H
                      exact absurd H (by simp)
                  · rw [if_neg c11] at H
                    have c11b0 : decide (x10_2 < (l1.length : Int)) = false := decide_eq_false c11
                    clear c11
                    by_cases c43 : 0 ≤ x8_2
                    · rw [if_pos c43] at H
                      have c43b0 := eq_true c43
                      have c43b1 : decide (0 ≤ x8_2) = true := decide_eq_true c43
                      clear c43
                      by_cases c44 : x8_2 ≤ (wrap64 (x8_2 + (wrap64 ((l0.length : Int) - x8_2))))
                      · rw [if_pos c44] at H
                        have c44b0 := eq_true c44
                        have c44b1 : decide (x8_2 ≤ (wrap64 (x8_2 + (wrap64 ((l0.length : Int) - x8_2))))) = true := decide_eq_true c44
                        by_cases c45 : (wrap64 (x8_2 + (wrap64 ((l0.length : Int) - x8_2)))) ≤ (l0.length : Int)
                        · rw [if_pos c45] at H
                          have c45b0 := eq_true c45
                          have c45b1 : decide ((wrap64 (x8_2 + (wrap64 ((l0.length : Int) - x8_2)))) ≤ (l0.length : Int)) = true := decide_eq_true c45
                          by_cases c46 : x6_2.length + ((l0.take ((wrap64 (x8_2 + (wrap64 ((l0.length : Int) - x8_2)))) : Int).toNat).drop (x8_2 : Int).toNat).length < 140737488355328
                          · rw [if_pos c46] at H
                            have LMc46 := Aside0.mk c46
                            clear c46
                            obtain ⟨y227, hy227⟩ : ∃ y_ : List Int, y_ = (x6_2 ++ ((l0.take ((wrap64 (x8_2 + (wrap64 ((l0.length : Int) - x8_2)))) : Int).toNat).drop (x8_2 : Int).toNat)) := ⟨_, rfl⟩
                            replace H : ((mbap_Cut.f y227).bind fun bt230 => (if bt230.2.1 < 0 then (some false) else (if bt230.2.1 > (y227.length : Int) then (some false) else (if x7_2.length + bt230.1.length < 4398046511104 then ((some (([] : List Int) : List Int)).bind fun y238 => (if 0 ≤ bt230.2.1 then (if bt230.2.1 ≤ (y227.length : Int) then ((some (y227.drop (bt230.2.1 : Int).toNat : List Int)).bind fun y241 => (if y238.length + y241.length < 140737488355328 then (watchkeeperlaw03_MbapPieces.l0 kj7 l0 l1 t195 (y238 ++ y241) (x7_2 ++ bt230.1) (wrap64 (x8_2 + (wrap64 ((l0.length : Int) - x8_2)))) bt230.2.2 (wrap64 (x10_2 + 1))) else (none))) else (none)) else (none))) else (none))))) = some r := by first | (rw [hy227]; with_reducible exact H) | (have H2_ := (Option.bind_some _ _).symm.trans H; rw [hy227]; with_reducible exact H2_) | (have H2_ := (Option.bind_some _ _).symm.trans H; with_reducible exact H2_) | with_reducible exact H | (rw [hy227]; exact H) | exact H
                            have Ny227 := Aside0.mk hy227
                            clear hy227
                            replace H := Option.bind_eq_some_iff.mp H
                            obtain ⟨⟨t230, t231, t232⟩, A470, H⟩ := H
                            replace H : (if t231 < 0 then (some false) else (if t231 > (y227.length : Int) then (some false) else (if x7_2.length + t230.length < 4398046511104 then ((some (([] : List Int) : List Int)).bind fun y238 => (if 0 ≤ t231 then (if t231 ≤ (y227.length : Int) then ((some (y227.drop (t231 : Int).toNat : List Int)).bind fun y241 => (if y238.length + y241.length < 140737488355328 then (watchkeeperlaw03_MbapPieces.l0 kj7 l0 l1 t195 (y238 ++ y241) (x7_2 ++ t230) (wrap64 (x8_2 + (wrap64 ((l0.length : Int) - x8_2)))) t232 (wrap64 (x10_2 + 1))) else (none))) else (none)) else (none))) else (none)))) = some r := H
                            have A47 := Aside0.mk A470
                            clear A470
                            by_cases c48 : t231 < 0
                            · rw [if_pos c48] at H
                              have c48b0 : decide (t231 < 0) = true := decide_eq_true c48
                              clear c48
                              obtain rfl := Option.some.inj H
                              obtain ⟨i049, hi049, _, hsz49, _⟩ := info_parts info5
                              obtain ⟨A49, hcut49, hA49, hC49⟩ := print_mid_of (P := Try.prog) (Value.int .u8) 0 22 5 .i64 .i64 Try.underlying22 hi049 hsz49 A0 c0 l0 x8_2 (wrap64 (x8_2 + (wrap64 ((l0.length : Int) - x8_2)))) (of_decide_eq_true (by first | (with_reducible assumption) | assumption)) (by first | omega | exact of_decide_eq_true (by first | (with_reducible assumption) | assumption)) (of_decide_eq_true (by first | (with_reducible assumption) | assumption)) HC0.out
                              have HR226 := Aside0.mk (Kd.C_of_reads (h1 := fun _ => rfl) (hA49 _ (Kd.reads_of_C HR0.out)))
                              have HC226 := Aside0.mk hC49
                              clear hA49 hC49 hi049 hsz49
                              go_wp2_with (first | ((with_reducible refine gate_builtin (b := .append) (xs := #[.tmp 53, .tmp 59]) rfl ?_); (try (refine gate_guard (by rfl) ?_; dsimp only)); at_builtin; refine Kd.R_append_rows (Kd.int .u8) (w0 := w) w.heap.size rfl (.tmp 53) (.tmp 59) 22 5 (.int .u8 0) 1 rfl Try.underlying22 info5 rfl (by decide) (by omega) u6 x6_2 ((l0.take ((wrap64 (x8_2 + (wrap64 ((l0.length : Int) - x8_2)))) : Int).toNat).drop (x8_2 : Int).toNat) _ _ _ (fun _ => True) (fun _ => False) rfl rfl ?aO ?aR (fun _ _ h => h) (fun _ h => h.elim) ?aF ?aB ?aS ?aL ?_; (case aR => first | (rw [← show ((l0.take ((wrap64 (x8_2 + (wrap64 ((l0.length : Int) - x8_2)))) : Int).toNat).drop (x8_2 : Int).toNat).length = ((wrap64 (x8_2 + (wrap64 ((l0.length : Int) - x8_2)))).toNat - x8_2.toNat) from (by rw [List.length_drop, List.length_take]; have h_ : ((wrap64 (x8_2 + (wrap64 ((l0.length : Int) - x8_2)))) : Int) ≤ (l0.length : Int) := of_decide_eq_true (by first | (with_reducible assumption) | assumption); omega)]; repeat (first | exact (Kd.C_below HR226.out HB.out) | (with_reducible refine Kd.C_alloc ?_ _) | (with_reducible refine Kd.C_drewN ?_ _) | (with_reducible refine Kd.C_drew ?_))) | (repeat (first | exact (Kd.C_below HR226.out HB.out) | (with_reducible refine Kd.C_alloc ?_ _) | (with_reducible refine Kd.C_drewN ?_ _) | (with_reducible refine Kd.C_drew ?_)))); (case aB => exact (by repeat (first | (with_reducible first | exact HB.out | apply below_alloc | apply pw_below_drewN | apply below_drew1) | exact HB.out))); (case aF => exact (fun _ _ => trivial)); (case aO => exact (by (with_reducible repeat (first | apply Kd.R_alloc | apply Kd.R_drewN | apply Kd.R_drew)); exact HO_6.out)); (case aS => exact (below_size (by repeat (first | (with_reducible first | exact HB.out | apply below_alloc | apply pw_below_drewN | apply below_drew1) | exact HB.out)))); (case aL => have := LMc46.out; have hlx_ := (show ((l0.take ((wrap64 (x8_2 + (wrap64 ((l0.length : Int) - x8_2)))) : Int).toNat).drop (x8_2 : Int).toNat).length = ((wrap64 (x8_2 + (wrap64 ((l0.length : Int) - x8_2)))).toNat - x8_2.toNat) from (by rw [List.length_drop, List.length_take]; have h_ : ((wrap64 (x8_2 + (wrap64 ((l0.length : Int) - x8_2)))) : Int) ≤ (l0.length : Int) := of_decide_eq_true (by first | (with_reducible assumption) | assumption); omega)); omega); intro v228 w50 ho hb hg hat; rw [← Ny227.out] at ho; have n0_ := Aside0.mk (Kd.N_afterv (ok := (fun _ => True)) (by (with_reducible repeat (first | apply Kd.N_alloc | apply Kd.N_drewN | apply Kd.N_drew)); exact Kd.N_mono HO_7.out (fun _ hk => ⟨trivial, hk⟩)) hg hat); have n1_ := Aside0.mk (hb); have n2_ := Aside0.mk (ho); clear HO_7; clear HB; clear HO_6; have HO_7 := n0_; have HB := n1_; have HO229 := n2_; clear n0_ n1_ n2_; clear ho hb hg hat; obtain ⟨Ao51, co51, eo51⟩ := Kd.R_slice HO229.out; subst eo51) | ((with_reducible refine gate_callee (f := 13) rfl ?_); refine goesL_ (some 66) rfl rfl Try.func13 (by kernel_rfl) rfl #[.slice Ao51 y227.length co51] rfl (by (try simp only [List.map_toArray, List.map_cons, List.map_nil]); first | done | rfl | (simp only [List.length_drop, List.length_take]; rfl)) ?_; (with_reducible refine (mbap_Cut.calls _ _ y227 t230 t231 t232 _ ?side1 ?side2 A47.out).mono ?_); (case side1 => repeat (first | exact (Kd.R_reads' HO229.out).2.2 | (with_reducible refine Kd.C_alloc ?_ _) | (with_reducible refine Kd.C_drewN ?_ _) | (with_reducible refine Kd.C_drew ?_))); (case side2 => exact (Kd.R_reads' HO229.out).2.1); rintro e w52 ⟨v233, rfl, ho0, hb⟩; refine ⟨_, rfl, ?_⟩; have n0_ := Aside0.mk (Kd.N_elder' (by (with_reducible repeat (first | apply Kd.N_alloc | apply Kd.N_drewN | apply Kd.N_drew)); exact HO_7.out) (Kd.S_base ho0) hb); have n1_ := Aside0.mk (Kd.R_below (by (with_reducible repeat (first | apply Kd.R_alloc | apply Kd.R_drewN | apply Kd.R_drew)); exact HO229.out) hb); have n2_ := Aside0.mk (Kd.N_lower (Kd.N_mono (ok' := fun k_ => some k_ ≠ (u7 : Value).ownBlock ∧ some k_ ≠ (.slice Ao51 y227.length co51 : Value).ownBlock) (Kd.S_N (Kd.S_bound ho0)) (fun k_ hk_ => ⟨(Kd.fresh' (Kd.N_lt (by (with_reducible repeat (first | apply Kd.N_alloc | apply Kd.N_drewN | apply Kd.N_drew)); exact HO_7.out)) k_ hk_.2.1), (Kd.fresh' (Kd.R_lt (by (with_reducible repeat (first | apply Kd.R_alloc | apply Kd.R_drewN | apply Kd.R_drew)); exact HO229.out)) k_ hk_.2.1)⟩)) (below_size (by repeat (first | (with_reducible first | exact HB.out | apply below_alloc | apply pw_below_drewN | apply below_drew1) | exact HB.out)))); have n3_ := Aside0.mk (below_step (by repeat (first | (with_reducible first | exact HB.out | apply below_alloc | apply pw_below_drewN | apply below_drew1) | exact HB.out)) hb); clear HO_7; clear HO229; clear HB; have HO_7 := n0_; have HO229 := n1_; have HO234 := n2_; have HB := n3_; clear n0_ n1_ n2_ n3_; (try clear hb); (try clear hb2); (try clear hgn); (try clear hk); (try clear hi); (try clear ho0)))
                              go_ret
                              exact ⟨by first | rfl | (simp [errW_none, errW_some] <;> rfl) | (simp [*, errW_none, errW_some] <;> rfl), by repeat (first | (with_reducible first | exact HB.out | apply below_alloc | apply pw_below_drewN | apply below_drew1) | exact HB.out)⟩
                            · rw [if_neg c48] at H
                              have c48b0 : decide (t231 < 0) = false := decide_eq_false c48
                              clear c48
                              by_cases c53 : t231 > (y227.length : Int)
                              · rw [if_pos c53] at H
                                have c53b0 : decide ((y227.length : Int) < t231) = true := decide_eq_true c53
                                clear c53
                                obtain rfl := Option.some.inj H
                                obtain ⟨i054, hi054, _, hsz54, _⟩ := info_parts info5
                                obtain ⟨A54, hcut54, hA54, hC54⟩ := print_mid_of (P := Try.prog) (Value.int .u8) 0 22 5 .i64 .i64 Try.underlying22 hi054 hsz54 A0 c0 l0 x8_2 (wrap64 (x8_2 + (wrap64 ((l0.length : Int) - x8_2)))) (of_decide_eq_true (by first | (with_reducible assumption) | assumption)) (by first | omega | exact of_decide_eq_true (by first | (with_reducible assumption) | assumption)) (of_decide_eq_true (by first | (with_reducible assumption) | assumption)) HC0.out
                                have HR226 := Aside0.mk (Kd.C_of_reads (h1 := fun _ => rfl) (hA54 _ (Kd.reads_of_C HR0.out)))
                                have HC226 := Aside0.mk hC54
                                clear hA54 hC54 hi054 hsz54
                                go_wp2_with (first | ((with_reducible refine gate_builtin (b := .append) (xs := #[.tmp 53, .tmp 59]) rfl ?_); (try (refine gate_guard (by rfl) ?_; dsimp only)); at_builtin; refine Kd.R_append_rows (Kd.int .u8) (w0 := w) w.heap.size rfl (.tmp 53) (.tmp 59) 22 5 (.int .u8 0) 1 rfl Try.underlying22 info5 rfl (by decide) (by omega) u6 x6_2 ((l0.take ((wrap64 (x8_2 + (wrap64 ((l0.length : Int) - x8_2)))) : Int).toNat).drop (x8_2 : Int).toNat) _ _ _ (fun _ => True) (fun _ => False) rfl rfl ?aO ?aR (fun _ _ h => h) (fun _ h => h.elim) ?aF ?aB ?aS ?aL ?_; (case aR => first | (rw [← show ((l0.take ((wrap64 (x8_2 + (wrap64 ((l0.length : Int) - x8_2)))) : Int).toNat).drop (x8_2 : Int).toNat).length = ((wrap64 (x8_2 + (wrap64 ((l0.length : Int) - x8_2)))).toNat - x8_2.toNat) from (by rw [List.length_drop, List.length_take]; have h_ : ((wrap64 (x8_2 + (wrap64 ((l0.length : Int) - x8_2)))) : Int) ≤ (l0.length : Int) := of_decide_eq_true (by first | (with_reducible assumption) | assumption); omega)]; repeat (first | exact (Kd.C_below HR226.out HB.out) | (with_reducible refine Kd.C_alloc ?_ _) | (with_reducible refine Kd.C_drewN ?_ _) | (with_reducible refine Kd.C_drew ?_))) | (repeat (first | exact (Kd.C_below HR226.out HB.out) | (with_reducible refine Kd.C_alloc ?_ _) | (with_reducible refine Kd.C_drewN ?_ _) | (with_reducible refine Kd.C_drew ?_)))); (case aB => exact (by repeat (first | (with_reducible first | exact HB.out | apply below_alloc | apply pw_below_drewN | apply below_drew1) | exact HB.out))); (case aF => exact (fun _ _ => trivial)); (case aO => exact (by (with_reducible repeat (first | apply Kd.R_alloc | apply Kd.R_drewN | apply Kd.R_drew)); exact HO_6.out)); (case aS => exact (below_size (by repeat (first | (with_reducible first | exact HB.out | apply below_alloc | apply pw_below_drewN | apply below_drew1) | exact HB.out)))); (case aL => have := LMc46.out; have hlx_ := (show ((l0.take ((wrap64 (x8_2 + (wrap64 ((l0.length : Int) - x8_2)))) : Int).toNat).drop (x8_2 : Int).toNat).length = ((wrap64 (x8_2 + (wrap64 ((l0.length : Int) - x8_2)))).toNat - x8_2.toNat) from (by rw [List.length_drop, List.length_take]; have h_ : ((wrap64 (x8_2 + (wrap64 ((l0.length : Int) - x8_2)))) : Int) ≤ (l0.length : Int) := of_decide_eq_true (by first | (with_reducible assumption) | assumption); omega)); omega); intro v228 w55 ho hb hg hat; rw [← Ny227.out] at ho; have n0_ := Aside0.mk (Kd.N_afterv (ok := (fun _ => True)) (by (with_reducible repeat (first | apply Kd.N_alloc | apply Kd.N_drewN | apply Kd.N_drew)); exact Kd.N_mono HO_7.out (fun _ hk => ⟨trivial, hk⟩)) hg hat); have n1_ := Aside0.mk (hb); have n2_ := Aside0.mk (ho); clear HO_7; clear HB; clear HO_6; have HO_7 := n0_; have HB := n1_; have HO229 := n2_; clear n0_ n1_ n2_; clear ho hb hg hat; obtain ⟨Ao56, co56, eo56⟩ := Kd.R_slice HO229.out; subst eo56) | ((with_reducible refine gate_callee (f := 13) rfl ?_); refine goesL_ (some 66) rfl rfl Try.func13 (by kernel_rfl) rfl #[.slice Ao56 y227.length co56] rfl (by (try simp only [List.map_toArray, List.map_cons, List.map_nil]); first | done | rfl | (simp only [List.length_drop, List.length_take]; rfl)) ?_; (with_reducible refine (mbap_Cut.calls _ _ y227 t230 t231 t232 _ ?side1 ?side2 A47.out).mono ?_); (case side1 => repeat (first | exact (Kd.R_reads' HO229.out).2.2 | (with_reducible refine Kd.C_alloc ?_ _) | (with_reducible refine Kd.C_drewN ?_ _) | (with_reducible refine Kd.C_drew ?_))); (case side2 => exact (Kd.R_reads' HO229.out).2.1); rintro e w57 ⟨v233, rfl, ho0, hb⟩; refine ⟨_, rfl, ?_⟩; have n0_ := Aside0.mk (Kd.N_elder' (by (with_reducible repeat (first | apply Kd.N_alloc | apply Kd.N_drewN | apply Kd.N_drew)); exact HO_7.out) (Kd.S_base ho0) hb); have n1_ := Aside0.mk (Kd.R_below (by (with_reducible repeat (first | apply Kd.R_alloc | apply Kd.R_drewN | apply Kd.R_drew)); exact HO229.out) hb); have n2_ := Aside0.mk (Kd.N_lower (Kd.N_mono (ok' := fun k_ => some k_ ≠ (u7 : Value).ownBlock ∧ some k_ ≠ (.slice Ao56 y227.length co56 : Value).ownBlock) (Kd.S_N (Kd.S_bound ho0)) (fun k_ hk_ => ⟨(Kd.fresh' (Kd.N_lt (by (with_reducible repeat (first | apply Kd.N_alloc | apply Kd.N_drewN | apply Kd.N_drew)); exact HO_7.out)) k_ hk_.2.1), (Kd.fresh' (Kd.R_lt (by (with_reducible repeat (first | apply Kd.R_alloc | apply Kd.R_drewN | apply Kd.R_drew)); exact HO229.out)) k_ hk_.2.1)⟩)) (below_size (by repeat (first | (with_reducible first | exact HB.out | apply below_alloc | apply pw_below_drewN | apply below_drew1) | exact HB.out)))); have n3_ := Aside0.mk (below_step (by repeat (first | (with_reducible first | exact HB.out | apply below_alloc | apply pw_below_drewN | apply below_drew1) | exact HB.out)) hb); clear HO_7; clear HO229; clear HB; have HO_7 := n0_; have HO229 := n1_; have HO234 := n2_; have HB := n3_; clear n0_ n1_ n2_ n3_; (try clear hb); (try clear hb2); (try clear hgn); (try clear hk); (try clear hi); (try clear ho0)))
                                go_ret
                                exact ⟨by first | rfl | (simp [errW_none, errW_some] <;> rfl) | (simp [*, errW_none, errW_some] <;> rfl), by repeat (first | (with_reducible first | exact HB.out | apply below_alloc | apply pw_below_drewN | apply below_drew1) | exact HB.out)⟩
                              · rw [if_neg c53] at H
                                have c53b0 : decide ((y227.length : Int) < t231) = false := decide_eq_false c53
                                clear c53
                                by_cases c58 : x7_2.length + t230.length < 4398046511104
                                · rw [if_pos c58] at H
                                  have LMc58 := Aside0.mk c58
                                  clear c58
                                  obtain ⟨y235, hy235⟩ : ∃ y_ : List (S26), y_ = (x7_2 ++ t230) := ⟨_, rfl⟩
                                  replace H : ((some (([] : List Int) : List Int)).bind fun y238 => (if 0 ≤ t231 then (if t231 ≤ (y227.length : Int) then ((some (y227.drop (t231 : Int).toNat : List Int)).bind fun y241 => (if y238.length + y241.length < 140737488355328 then (watchkeeperlaw03_MbapPieces.l0 kj7 l0 l1 t195 (y238 ++ y241) y235 (wrap64 (x8_2 + (wrap64 ((l0.length : Int) - x8_2)))) t232 (wrap64 (x10_2 + 1))) else (none))) else (none)) else (none))) = some r := by first | (rw [hy235]; with_reducible exact H) | (have H2_ := (Option.bind_some _ _).symm.trans H; rw [hy235]; with_reducible exact H2_) | (have H2_ := (Option.bind_some _ _).symm.trans H; with_reducible exact H2_) | with_reducible exact H | (rw [hy235]; exact H) | exact H
                                  have Ny235 := Aside0.mk hy235
                                  clear hy235
                                  obtain ⟨y238, hy238⟩ : ∃ y_ : List Int, y_ = (([] : List Int)) := ⟨_, rfl⟩
                                  replace H : (if 0 ≤ t231 then (if t231 ≤ (y227.length : Int) then ((some (y227.drop (t231 : Int).toNat : List Int)).bind fun y241 => (if y238.length + y241.length < 140737488355328 then (watchkeeperlaw03_MbapPieces.l0 kj7 l0 l1 t195 (y238 ++ y241) y235 (wrap64 (x8_2 + (wrap64 ((l0.length : Int) - x8_2)))) t232 (wrap64 (x10_2 + 1))) else (none))) else (none)) else (none)) = some r := by first | (rw [hy238]; with_reducible exact H) | (have H2_ := (Option.bind_some _ _).symm.trans H; rw [hy238]; with_reducible exact H2_) | (have H2_ := (Option.bind_some _ _).symm.trans H; with_reducible exact H2_) | with_reducible exact H | (rw [hy238]; exact H) | exact H
                                  have Ny238 := Aside0.mk hy238
                                  clear hy238
                                  by_cases c59 : 0 ≤ t231
                                  · rw [if_pos c59] at H
                                    have c59b0 := eq_true c59
                                    have c59b1 : decide (0 ≤ t231) = true := decide_eq_true c59
                                    clear c59
                                    by_cases c60 : t231 ≤ (y227.length : Int)
                                    · rw [if_pos c60] at H
                                      have c60b0 := eq_true c60
                                      have c60b1 : decide (t231 ≤ (y227.length : Int)) = true := decide_eq_true c60
                                      clear c60
                                      obtain ⟨y241, hy241⟩ : ∃ y_ : List Int, y_ = (y227.drop (t231 : Int).toNat) := ⟨_, rfl⟩
                                      replace H : (if y238.length + y241.length < 140737488355328 then (watchkeeperlaw03_MbapPieces.l0 kj7 l0 l1 t195 (y238 ++ y241) y235 (wrap64 (x8_2 + (wrap64 ((l0.length : Int) - x8_2)))) t232 (wrap64 (x10_2 + 1))) else (none)) = some r := by first | (rw [hy241]; with_reducible exact H) | (have H2_ := (Option.bind_some _ _).symm.trans H; rw [hy241]; with_reducible exact H2_) | (have H2_ := (Option.bind_some _ _).symm.trans H; with_reducible exact H2_) | with_reducible exact H | (rw [hy241]; exact H) | exact H
                                      have Ny241 := Aside0.mk hy241
                                      clear hy241
                                      by_cases c61 : y238.length + y241.length < 140737488355328
                                      · rw [if_pos c61] at H
                                        have LMc61 := Aside0.mk c61
                                        clear c61
                                        obtain ⟨y246, hy246⟩ : ∃ y_ : List Int, y_ = (y238 ++ y241) := ⟨_, rfl⟩
                                        replace H : (watchkeeperlaw03_MbapPieces.l0 kj7 l0 l1 t195 y246 y235 (wrap64 (x8_2 + (wrap64 ((l0.length : Int) - x8_2)))) t232 (wrap64 (x10_2 + 1))) = some r := by first | (rw [hy246]; with_reducible exact H) | (have H2_ := (Option.bind_some _ _).symm.trans H; rw [hy246]; with_reducible exact H2_) | (have H2_ := (Option.bind_some _ _).symm.trans H; with_reducible exact H2_) | with_reducible exact H | (rw [hy246]; exact H) | exact H
                                        have Ny246 := Aside0.mk hy246
                                        clear hy246
                                        have H' := Aside0.mk H
                                        clear H
                                        obtain ⟨i062, hi062, _, hsz62, _⟩ := info_parts info5
                                        obtain ⟨A62, hcut62, hA62, hC62⟩ := print_mid_of (P := Try.prog) (Value.int .u8) 0 22 5 .i64 .i64 Try.underlying22 hi062 hsz62 A0 c0 l0 x8_2 (wrap64 (x8_2 + (wrap64 ((l0.length : Int) - x8_2)))) (of_decide_eq_true (by first | (with_reducible assumption) | assumption)) (by first | omega | exact of_decide_eq_true (by first | (with_reducible assumption) | assumption)) (of_decide_eq_true (by first | (with_reducible assumption) | assumption)) HC0.out
                                        have HR226 := Aside0.mk (Kd.C_of_reads (h1 := fun _ => rfl) (hA62 _ (Kd.reads_of_C HR0.out)))
                                        have HC226 := Aside0.mk hC62
                                        clear hA62 hC62 hi062 hsz62
                                        go_wp2_with (first | ((with_reducible refine gate_builtin (b := .append) (xs := #[.tmp 53, .tmp 59]) rfl ?_); (try (refine gate_guard (by rfl) ?_; dsimp only)); at_builtin; refine Kd.R_append_rows (Kd.int .u8) (w0 := w) w.heap.size rfl (.tmp 53) (.tmp 59) 22 5 (.int .u8 0) 1 rfl Try.underlying22 info5 rfl (by decide) (by omega) u6 x6_2 ((l0.take ((wrap64 (x8_2 + (wrap64 ((l0.length : Int) - x8_2)))) : Int).toNat).drop (x8_2 : Int).toNat) _ _ _ (fun _ => True) (fun _ => False) rfl rfl ?aO ?aR (fun _ _ h => h) (fun _ h => h.elim) ?aF ?aB ?aS ?aL ?_; (case aR => first | (rw [← show ((l0.take ((wrap64 (x8_2 + (wrap64 ((l0.length : Int) - x8_2)))) : Int).toNat).drop (x8_2 : Int).toNat).length = ((wrap64 (x8_2 + (wrap64 ((l0.length : Int) - x8_2)))).toNat - x8_2.toNat) from (by rw [List.length_drop, List.length_take]; have h_ : ((wrap64 (x8_2 + (wrap64 ((l0.length : Int) - x8_2)))) : Int) ≤ (l0.length : Int) := of_decide_eq_true (by first | (with_reducible assumption) | assumption); omega)]; repeat (first | exact (Kd.C_below HR226.out HB.out) | (with_reducible refine Kd.C_alloc ?_ _) | (with_reducible refine Kd.C_drewN ?_ _) | (with_reducible refine Kd.C_drew ?_))) | (repeat (first | exact (Kd.C_below HR226.out HB.out) | (with_reducible refine Kd.C_alloc ?_ _) | (with_reducible refine Kd.C_drewN ?_ _) | (with_reducible refine Kd.C_drew ?_)))); (case aB => exact (by repeat (first | (with_reducible first | exact HB.out | apply below_alloc | apply pw_below_drewN | apply below_drew1) | exact HB.out))); (case aF => exact (fun _ _ => trivial)); (case aO => exact (by (with_reducible repeat (first | apply Kd.R_alloc | apply Kd.R_drewN | apply Kd.R_drew)); exact HO_6.out)); (case aS => exact (below_size (by repeat (first | (with_reducible first | exact HB.out | apply below_alloc | apply pw_below_drewN | apply below_drew1) | exact HB.out)))); (case aL => have := LMc46.out; have hlx_ := (show ((l0.take ((wrap64 (x8_2 + (wrap64 ((l0.length : Int) - x8_2)))) : Int).toNat).drop (x8_2 : Int).toNat).length = ((wrap64 (x8_2 + (wrap64 ((l0.length : Int) - x8_2)))).toNat - x8_2.toNat) from (by rw [List.length_drop, List.length_take]; have h_ : ((wrap64 (x8_2 + (wrap64 ((l0.length : Int) - x8_2)))) : Int) ≤ (l0.length : Int) := of_decide_eq_true (by first | (with_reducible assumption) | assumption); omega)); omega); intro v228 w63 ho hb hg hat; rw [← Ny227.out] at ho; have n0_ := Aside0.mk (Kd.N_afterv (ok := (fun _ => True)) (by (with_reducible repeat (first | apply Kd.N_alloc | apply Kd.N_drewN | apply Kd.N_drew)); exact Kd.N_mono HO_7.out (fun _ hk => ⟨trivial, hk⟩)) hg hat); have n1_ := Aside0.mk (hb); have n2_ := Aside0.mk (ho); clear HO_7; clear HB; clear HO_6; have HO_7 := n0_; have HB := n1_; have HO229 := n2_; clear n0_ n1_ n2_; clear ho hb hg hat; obtain ⟨Ao64, co64, eo64⟩ := Kd.R_slice HO229.out; subst eo64) | ((with_reducible refine gate_callee (f := 13) rfl ?_); refine goesL_ (some 66) rfl rfl Try.func13 (by kernel_rfl) rfl #[.slice Ao64 y227.length co64] rfl (by (try simp only [List.map_toArray, List.map_cons, List.map_nil]); first | done | rfl | (simp only [List.length_drop, List.length_take]; rfl)) ?_; (with_reducible refine (mbap_Cut.calls _ _ y227 t230 t231 t232 _ ?side1 ?side2 A47.out).mono ?_); (case side1 => repeat (first | exact (Kd.R_reads' HO229.out).2.2 | (with_reducible refine Kd.C_alloc ?_ _) | (with_reducible refine Kd.C_drewN ?_ _) | (with_reducible refine Kd.C_drew ?_))); (case side2 => exact (Kd.R_reads' HO229.out).2.1); rintro e w65 ⟨v233, rfl, ho0, hb⟩; refine ⟨_, rfl, ?_⟩; have n0_ := Aside0.mk (Kd.N_elder' (by (with_reducible repeat (first | apply Kd.N_alloc | apply Kd.N_drewN | apply Kd.N_drew)); exact HO_7.out) (Kd.S_base ho0) hb); have n1_ := Aside0.mk (Kd.R_below (by (with_reducible repeat (first | apply Kd.R_alloc | apply Kd.R_drewN | apply Kd.R_drew)); exact HO229.out) hb); have n2_ := Aside0.mk (Kd.N_lower (Kd.N_mono (ok' := fun k_ => some k_ ≠ (u7 : Value).ownBlock ∧ some k_ ≠ (.slice Ao64 y227.length co64 : Value).ownBlock) (Kd.S_N (Kd.S_bound ho0)) (fun k_ hk_ => ⟨(Kd.fresh' (Kd.N_lt (by (with_reducible repeat (first | apply Kd.N_alloc | apply Kd.N_drewN | apply Kd.N_drew)); exact HO_7.out)) k_ hk_.2.1), (Kd.fresh' (Kd.R_lt (by (with_reducible repeat (first | apply Kd.R_alloc | apply Kd.R_drewN | apply Kd.R_drew)); exact HO229.out)) k_ hk_.2.1)⟩)) (below_size (by repeat (first | (with_reducible first | exact HB.out | apply below_alloc | apply pw_below_drewN | apply below_drew1) | exact HB.out)))); have n3_ := Aside0.mk (below_step (by repeat (first | (with_reducible first | exact HB.out | apply below_alloc | apply pw_below_drewN | apply below_drew1) | exact HB.out)) hb); clear HO_7; clear HO229; clear HB; have HO_7 := n0_; have HO229 := n1_; have HO234 := n2_; have HB := n3_; clear n0_ n1_ n2_ n3_; (try clear hb); (try clear hb2); (try clear hgn); (try clear hk); (try clear hi); (try clear ho0); obtain ⟨Ao67, co67, eo67⟩ := Kd.N_slice HO234.out; subst eo67) | ((with_reducible refine gate_builtin (b := .append) (xs := #[.tmp 78, .tmp 79]) rfl ?_); (try (refine gate_guard (by rfl) ?_; dsimp only)); at_builtin; refine Kd.N_append_rows k26 (w0 := w) w.heap.size rfl (.tmp 78) (.tmp 79) 32 26 (.agg #[(.int .u16 0), (.int .u8 0), (.slice none 0 0)]) 32 rfl Try.underlying32 info26 rfl (by decide) (by omega) u7 x7_2 t230 _ _ _ (fun k_ => some k_ ≠ (.slice Ao64 y227.length co64 : Value).ownBlock) (fun k_ => ((fun k_ => some k_ ≠ (.slice Ao64 y227.length co64 : Value).ownBlock)) k_ ∧ some k_ ≠ (u7 : Value).ownBlock) rfl rfl ?aO ?aR (fun _ hk => hk) ?aF ?aB ?aS ?aL ?_; (case aR => exact (by skip; exact Kd.N_F (Kd.N_mono (ok' := (fun k_ => ((fun k_ => some k_ ≠ (.slice Ao64 y227.length co64 : Value).ownBlock)) k_ ∧ some k_ ≠ (u7 : Value).ownBlock)) (HO234.out) (fun k_ hk => ⟨hk.2, hk.1⟩)))); (case aB => exact (by repeat (first | (with_reducible first | exact HB.out | apply below_alloc | apply pw_below_drewN | apply below_drew1) | exact HB.out))); (case aF => exact (fun k_ hk => Kd.fresh' (Kd.R_lt (by (with_reducible repeat (first | apply Kd.R_alloc | apply Kd.R_drewN | apply Kd.R_drew)); exact HO229.out)) k_ hk)); (case aO => exact (by (with_reducible repeat (first | apply Kd.N_alloc | apply Kd.N_drewN | apply Kd.N_drew)); exact Kd.N_mono HO_7.out (fun _ hk => hk.1.2))); (case aS => exact (below_size (by repeat (first | (with_reducible first | exact HB.out | apply below_alloc | apply pw_below_drewN | apply below_drew1) | exact HB.out)))); (case aL => have := LMc58.out; omega); intro v236 w66 ho hb hg hat; rw [← Ny235.out] at ho; have n0_ := Aside0.mk (Kd.R_over' (by (with_reducible repeat (first | apply Kd.R_alloc | apply Kd.R_drewN | apply Kd.R_drew)); exact HO229.out) (Kd.N_typed (by (with_reducible repeat (first | apply Kd.N_alloc | apply Kd.N_drewN | apply Kd.N_drew)); exact HO_7.out)) (by decide) hg); have n1_ := Aside0.mk (Kd.N_afterv (ok := (fun k_ => some k_ ≠ (.slice Ao64 y227.length co64 : Value).ownBlock)) (by (with_reducible repeat (first | apply Kd.N_alloc | apply Kd.N_drewN | apply Kd.N_drew)); exact Kd.N_mono HO234.out (fun _ hk => ⟨hk.2, hk.1⟩)) hg hat); have n2_ := Aside0.mk (hb); have n3_ := Aside0.mk (ho); clear HO229; clear HO234; clear HB; clear HO_7; have HO229 := n0_; have HO234 := n1_; have HB := n2_; have HO237 := n3_; clear n0_ n1_ n2_ n3_; clear ho hb hg hat) | ((with_reducible refine gate_dst (N := 81) rfl ?_); (try (refine gate_guard (by rfl) ?_; dsimp only)); refine Kd.R_lit (Kd.int .u8) _ 5 ?hg (N := 81) ?hd (xs := ([] : List Int)) (inner := []) (ok := fun _ => True) (okp := fun _ => True) ?hr ?hp (fun _ hk => hk) trivial (Below.refl _ _) (Nat.le_refl _) (by simp) ?_; (case hd => rfl); (case hg => rfl); (case hr => first | (go_simp; done) | (go_simp; rfl)); (case hp => exact (Reps.none _ _)); intro v239 w68 ho69 hb hg_ hnew_; clear hg_ hnew_; (first | rw [← Ny238.out] at ho69 | (simp only [Int.reduceToNat] at ho69; rw [← Ny238.out] at ho69)); have n0_ := Aside0.mk (Kd.R_elder' (by (with_reducible repeat (first | apply Kd.R_alloc | apply Kd.R_drewN | apply Kd.R_drew)); exact HO229.out) (Kd.R_base ho69) hb); have n1_ := Aside0.mk (Kd.N_elder' (by (with_reducible repeat (first | apply Kd.N_alloc | apply Kd.N_drewN | apply Kd.N_drew)); exact HO234.out) (Kd.R_base ho69) hb); have n2_ := Aside0.mk (Kd.N_elder' (by (with_reducible repeat (first | apply Kd.N_alloc | apply Kd.N_drewN | apply Kd.N_drew)); exact HO237.out) (Kd.R_base ho69) hb); have n3_ := Aside0.mk (Kd.R_lower (Kd.R_new' ho69 (Kd.R_lt (by (with_reducible repeat (first | apply Kd.R_alloc | apply Kd.R_drewN | apply Kd.R_drew)); exact HO229.out))) (below_size (by repeat (first | (with_reducible first | exact HB.out | apply below_alloc | apply pw_below_drewN | apply below_drew1) | exact HB.out)))); have n4_ := Aside0.mk (below_step (by repeat (first | (with_reducible first | exact HB.out | apply below_alloc | apply pw_below_drewN | apply below_drew1) | exact HB.out)) hb); clear HO229; clear HO234; clear HO237; clear HB; have HO229 := n0_; have HO234 := n1_; have HO237 := n2_; have HO240 := n3_; have HB := n4_; clear n0_ n1_ n2_ n3_ n4_; clear hb ho69; have q70 : (t231 : Int) ≤ ((y227.length : Int) : Int) := of_decide_eq_true (by first | (with_reducible assumption) | assumption); obtain ⟨i070, hi070, _, hsz70, _⟩ := info_parts info5; have hroom70 : y227.length ≤ co64 := (Kd.R_reads' HO229.out).2.1; have hC70 : Kd.F (Kd.int .u8) _ _ Ao64 y227.length y227 := (Kd.V_at (base := w.heap.size) (Kd.R_V (Kd.R_apart' (Kd.R_apart' (HO229.out) (Kd.N_typed HO234.out) (by decide)) (Kd.N_typed HO237.out) (by decide)))).2.2; have q070 : (0 : Int) ≤ (t231 : Int) := of_decide_eq_true (by first | (with_reducible assumption) | assumption); have hcut70 := cut_from (P := Try.prog) 22 5 .i64 Try.underlying22 hi070 1 hsz70 Ao64 y227.length co64 t231 q070 q70; have hr70 := Kd.F_cut (m := (t231 : Int).toNat) (c := co64) hC70 (by omega) hroom70; obtain ⟨A70, hA70⟩ : ∃ A1, A1 = (if co64 = (t231 : Int).toNat then Ao64 else (Ao64 : Option Addr).map (·.add ((t231 : Int).toNat * 1))) := ⟨_, rfl⟩; obtain ⟨c70, hc70⟩ : ∃ c1, c1 = co64 - (t231 : Int).toNat := ⟨_, rfl⟩; have hy70 : y241.length = y227.length - (t231 : Int).toNat := (by rw [Ny241.out, List.length_drop] <;> omega); rw [show (y227).drop (t231 : Int).toNat = y241 from Ny241.out.symm] at hr70; replace hr70 : Kd.F (Kd.int .u8) _ _ A70 y241.length y241 := (by rw [hA70]; exact hr70); rw [← hy70, ← hA70, ← hc70] at hcut70; have HO245 := Aside0.mk (show Kd.V (Kd.int .u8) 5 _ w.heap.size _ (.slice A70 y241.length c70) y241 from Kd.V_mk (by rw [hy70, hc70]; exact Nat.sub_le_sub_right hroom70 _) hr70); have HC245 := Aside0.mk (show y241.length ≤ c70 from by rw [hy70, hc70]; exact Nat.sub_le_sub_right hroom70 _); clear hr70 hC70 hroom70 hi070 hsz70 hc70; have KY70 := Aside0.mk hy70; have KA70 := Aside0.mk hA70; clear hy70 hA70; replace q70 := eq_true q70) | ((with_reducible refine gate_builtin (b := .append) (xs := #[.tmp 81, .tmp 84]) rfl ?_); (try (refine gate_guard (by rfl) ?_; dsimp only)); at_builtin; refine Kd.R_append_rows (Kd.int .u8) (w0 := w) w.heap.size rfl (.tmp 81) (.tmp 84) 22 5 (.int .u8 0) 1 rfl Try.underlying22 info5 rfl (by decide) (by omega) v239 y238 y241 _ _ _ (fun k_ => some k_ ≠ (.slice Ao64 y227.length co64 : Value).ownBlock) (fun _ => False) rfl rfl ?aO ?aR (fun _ _ h => h) (fun _ h => h.elim) ?aF ?aB ?aS ?aL ?_; (case aR => repeat (first | exact (Kd.V_reads' HO245.out).2.2 | (with_reducible refine Kd.C_alloc ?_ _) | (with_reducible refine Kd.C_drewN ?_ _) | (with_reducible refine Kd.C_drew ?_))); (case aB => exact (by repeat (first | (with_reducible first | exact HB.out | apply below_alloc | apply pw_below_drewN | apply below_drew1) | exact HB.out))); (case aF => exact (fun k_ hk => Kd.fresh' (Kd.R_lt (by (with_reducible repeat (first | apply Kd.R_alloc | apply Kd.R_drewN | apply Kd.R_drew)); exact HO229.out)) k_ hk)); (case aO => exact (by (with_reducible repeat (first | apply Kd.R_alloc | apply Kd.R_drewN | apply Kd.R_drew)); exact Kd.R_mono HO240.out (fun _ hk => hk.2))); (case aS => exact (below_size (by repeat (first | (with_reducible first | exact HB.out | apply below_alloc | apply pw_below_drewN | apply below_drew1) | exact HB.out)))); (case aL => have := LMc61.out; omega); intro v247 w71 ho hb hg hat; rw [← Ny246.out] at ho; have n0_ := Aside0.mk (Kd.R_after (ok := (fun _ => True)) (by (with_reducible repeat (first | apply Kd.R_alloc | apply Kd.R_drewN | apply Kd.R_drew)); exact HO229.out) hg hat); have n1_ := Aside0.mk (Kd.N_afterv (ok := (fun k_ => some k_ ≠ (.slice Ao64 y227.length co64 : Value).ownBlock ∧ some k_ ≠ (v236 : Value).ownBlock)) (by (with_reducible repeat (first | apply Kd.N_alloc | apply Kd.N_drewN | apply Kd.N_drew)); exact HO234.out) hg hat); have n2_ := Aside0.mk (Kd.N_afterv (ok := (fun k_ => some k_ ≠ (.slice Ao64 y227.length co64 : Value).ownBlock)) (by (with_reducible repeat (first | apply Kd.N_alloc | apply Kd.N_drewN | apply Kd.N_drew)); exact HO237.out) hg hat); have n3_ := Aside0.mk (Kd.V_afterv (ok := (fun k_ => some k_ ≠ (.slice Ao67 t230.length co67 : Value).ownBlock ∧ some k_ ≠ (v236 : Value).ownBlock)) (by (with_reducible repeat (first | apply Kd.V_alloc | apply Kd.V_drewN | apply Kd.V_drew)); exact Kd.V_mono HO245.out (fun _ hk => ⟨⟨hk.1.2, hk.2⟩, hk.1.1.2⟩)) hg hat); have n4_ := Aside0.mk (hb); have n5_ := Aside0.mk (ho); clear HO229; clear HO234; clear HO237; clear HO245; clear HB; clear HO240; have HO229 := n0_; have HO234 := n1_; have HO237 := n2_; have HO245 := n3_; have HB := n4_; have HO248 := n5_; clear n0_ n1_ n2_ n3_ n4_ n5_; clear ho hb hg hat))
                                        go_roundg kj7
                                        case measure => have := HJ3.out; have := HK2.out; have := HJ7.out; omega
                                        case rel => exact ⟨(y246), (y235), (wrap64 (x8_2 + (wrap64 ((l0.length : Int) - x8_2)))), (t232), (wrap64 (x10_2 + 1)), (by first | rfl | (simp; done) | (simp [*]; done)), (by first | rfl | (simp; done) | (simp [*]; done)), (by first | rfl | (simp; done) | (simp [*]; done)), H', ⟨by have := HJ3.out; have := HK2.out; have := HJ7.out; omega⟩, ⟨by (with_reducible repeat (first | apply Kd.R_alloc | apply Kd.R_drewN | apply Kd.R_drew)); exact Kd.R_mono HO248.out (fun _ hk => trivial)⟩, ⟨by (with_reducible repeat (first | apply Kd.N_alloc | apply Kd.N_drewN | apply Kd.N_drew)); exact Kd.N_mono HO237.out (fun _ hk => hk.2)⟩, ⟨by repeat (first | (with_reducible first | exact HB.out | apply below_alloc | apply pw_below_drewN | apply below_drew1) | exact HB.out)⟩⟩
                                      · rw [if_neg c61] at H
                                        exact absurd H (by simp)
                                    · rw [if_neg c60] at H
                                      exact absurd H (by simp)
                                  · rw [if_neg c59] at H
                                    exact absurd H (by simp)
                                · rw [if_neg c58] at H
                                  exact absurd H (by simp)
                          · rw [if_neg c46] at H
                            exact absurd H (by simp)
                        · rw [if_neg c45] at H
                          exact absurd H (by simp)
                      · rw [if_neg c44] at H
                        exact absurd H (by simp)
                    · rw [if_neg c43] at H
                      exact absurd H (by simp)
                · replace c10 := Bool.eq_false_iff.mpr c10
                  subst c10
                  have H1 : ((mbap_Cut.f l0).bind fun bt196 => (if t195 = true then ((watchkeeperref03_SameAll.f kj7 x7_2 bt196.1).bind fun t201 => (if t201 = true then (some (x9_2 == bt196.2.2)) else (some false))) else (some false))) = some r := by rw [if_neg (show ¬ (false = true) by decide)] at H; exact H
                  clear H
                  have H := H1
                  clear H1
                  replace H := Option.bind_eq_some_iff.mp H
                  obtain ⟨⟨t196, t197, t198⟩, A720, H⟩ := H
                  replace H : (if t195 = true then ((watchkeeperref03_SameAll.f kj7 x7_2 t196).bind fun t201 => (if t201 = true then (some (x9_2 == t198)) else (some false))) else (some false)) = some r := H
                  have A72 := Aside0.mk A720
                  clear A720
                  by_cases c73 : t195 = true
                  · subst c73
                    have H1 : ((watchkeeperref03_SameAll.f kj7 x7_2 t196).bind fun t201 => (if t201 = true then (some (x9_2 == t198)) else (some false))) = some r := by rw [if_pos rfl] at H; exact H
                    clear H
                    have H := H1
                    clear H1
                    replace H := Option.bind_eq_some_iff.mp H
                    obtain ⟨t201, A740, H⟩ := H
                    replace H : (if t201 = true then (some (x9_2 == t198)) else (some false)) = some r := H
                    have A74 := Aside0.mk A740
                    clear A740
                    by_cases c75 : t201 = true
                    · subst c75
                      have H1 : (some (x9_2 == t198)) = some r := by rw [if_pos rfl] at H; exact H
                      clear H
                      have H := H1
                      clear H1
                      obtain rfl := Option.some.inj H
                      go_wp2_with (first | ((with_reducible refine gate_callee (f := 13) rfl ?_); refine goesL_ (some 89) rfl rfl Try.func13 (by kernel_rfl) rfl #[.slice A0 l0.length c0] rfl (by (try simp only [List.map_toArray, List.map_cons, List.map_nil]); first | done | rfl | (simp only [List.length_drop, List.length_take]; rfl)) ?_; (with_reducible refine (mbap_Cut.calls _ _ l0 t196 t197 t198 _ ?side1 ?side2 A72.out).mono ?_); (case side1 => repeat (first | exact (Kd.C_below HR0.out HB.out) | (with_reducible refine Kd.C_alloc ?_ _) | (with_reducible refine Kd.C_drewN ?_ _) | (with_reducible refine Kd.C_drew ?_))); (case side2 => exact HC0.out); rintro e w76 ⟨v199, rfl, ho0, hb⟩; refine ⟨_, rfl, ?_⟩; have n0_ := Aside0.mk (Kd.R_below (by (with_reducible repeat (first | apply Kd.R_alloc | apply Kd.R_drewN | apply Kd.R_drew)); exact HO_6.out) hb); have n1_ := Aside0.mk (Kd.N_elder' (by (with_reducible repeat (first | apply Kd.N_alloc | apply Kd.N_drewN | apply Kd.N_drew)); exact HO_7.out) (Kd.S_base ho0) hb); have n2_ := Aside0.mk (Kd.N_lower (Kd.N_mono (ok' := fun k_ => some k_ ≠ (u6 : Value).ownBlock ∧ some k_ ≠ (u7 : Value).ownBlock) (Kd.S_N (Kd.S_bound ho0)) (fun k_ hk_ => ⟨(Kd.fresh' (Kd.R_lt (by (with_reducible repeat (first | apply Kd.R_alloc | apply Kd.R_drewN | apply Kd.R_drew)); exact HO_6.out)) k_ hk_.2.1), (Kd.fresh' (Kd.N_lt (by (with_reducible repeat (first | apply Kd.N_alloc | apply Kd.N_drewN | apply Kd.N_drew)); exact HO_7.out)) k_ hk_.2.1)⟩)) (below_size (by repeat (first | (with_reducible first | exact HB.out | apply below_alloc | apply pw_below_drewN | apply below_drew1) | exact HB.out)))); have n3_ := Aside0.mk (below_step (by repeat (first | (with_reducible first | exact HB.out | apply below_alloc | apply pw_below_drewN | apply below_drew1) | exact HB.out)) hb); clear HO_6; clear HO_7; clear HB; have HO_6 := n0_; have HO_7 := n1_; have HO200 := n2_; have HB := n3_; clear n0_ n1_ n2_ n3_; (try clear hb); (try clear hb2); (try clear hgn); (try clear hk); (try clear hi); (try clear ho0); obtain ⟨Ao77, co77, eo77⟩ := Kd.N_slice HO_7.out; subst eo77; obtain ⟨Ao78, co78, eo78⟩ := Kd.N_slice HO200.out; subst eo78) | (go_at_call 18; (with_reducible refine (watchkeeperref03_SameAll.calls kj7 _ _ x7_2 _ _ t196 true _ ?side1 ?side2 ?side3 ?side4 A74.out).mono ?_); (case side1 => repeat (first | exact (Kd.N_reads' HO_7.out).2.2 | (with_reducible refine Kd.C_alloc ?_ _) | (with_reducible refine Kd.C_drewN ?_ _) | (with_reducible refine Kd.C_drew ?_))); (case side2 => exact (Kd.N_reads' HO_7.out).2.1); (case side3 => repeat (first | exact (Kd.N_reads' HO200.out).2.2 | (with_reducible refine Kd.C_alloc ?_ _) | (with_reducible refine Kd.C_drewN ?_ _) | (with_reducible refine Kd.C_drew ?_))); (case side4 => exact (Kd.N_reads' HO200.out).2.1); rintro e w79 ⟨rfl, hb⟩; have n0_ := Aside0.mk (Kd.R_below (by (with_reducible repeat (first | apply Kd.R_alloc | apply Kd.R_drewN | apply Kd.R_drew)); exact HO_6.out) hb); have n1_ := Aside0.mk (Kd.N_below (by (with_reducible repeat (first | apply Kd.N_alloc | apply Kd.N_drewN | apply Kd.N_drew)); exact HO_7.out) hb); have n2_ := Aside0.mk (Kd.N_below (by (with_reducible repeat (first | apply Kd.N_alloc | apply Kd.N_drewN | apply Kd.N_drew)); exact HO200.out) hb); have n3_ := Aside0.mk (below_step (by repeat (first | (with_reducible first | exact HB.out | apply below_alloc | apply pw_below_drewN | apply below_drew1) | exact HB.out)) hb); clear HO_6; clear HO_7; clear HO200; clear HB; have HO_6 := n0_; have HO_7 := n1_; have HO200 := n2_; have HB := n3_; clear n0_ n1_ n2_ n3_; (try clear hb); (try clear hb2); (try clear hgn); (try clear hk); (try clear hi)))
                      go_ret
                      exact ⟨by first | rfl | (simp [errW_none, errW_some] <;> rfl) | (simp [*, errW_none, errW_some] <;> rfl), by repeat (first | (with_reducible first | exact HB.out | apply below_alloc | apply pw_below_drewN | apply below_drew1) | exact HB.out)⟩
                    · replace c75 := Bool.eq_false_iff.mpr c75
                      subst c75
                      have H1 : (some false) = some r := by rw [if_neg (show ¬ (false = true) by decide)] at H; exact H
                      clear H
                      have H := H1
                      clear H1
                      obtain rfl := Option.some.inj H
                      go_wp2_with (first | ((with_reducible refine gate_callee (f := 13) rfl ?_); refine goesL_ (some 89) rfl rfl Try.func13 (by kernel_rfl) rfl #[.slice A0 l0.length c0] rfl (by (try simp only [List.map_toArray, List.map_cons, List.map_nil]); first | done | rfl | (simp only [List.length_drop, List.length_take]; rfl)) ?_; (with_reducible refine (mbap_Cut.calls _ _ l0 t196 t197 t198 _ ?side1 ?side2 A72.out).mono ?_); (case side1 => repeat (first | exact (Kd.C_below HR0.out HB.out) | (with_reducible refine Kd.C_alloc ?_ _) | (with_reducible refine Kd.C_drewN ?_ _) | (with_reducible refine Kd.C_drew ?_))); (case side2 => exact HC0.out); rintro e w80 ⟨v199, rfl, ho0, hb⟩; refine ⟨_, rfl, ?_⟩; have n0_ := Aside0.mk (Kd.R_below (by (with_reducible repeat (first | apply Kd.R_alloc | apply Kd.R_drewN | apply Kd.R_drew)); exact HO_6.out) hb); have n1_ := Aside0.mk (Kd.N_elder' (by (with_reducible repeat (first | apply Kd.N_alloc | apply Kd.N_drewN | apply Kd.N_drew)); exact HO_7.out) (Kd.S_base ho0) hb); have n2_ := Aside0.mk (Kd.N_lower (Kd.N_mono (ok' := fun k_ => some k_ ≠ (u6 : Value).ownBlock ∧ some k_ ≠ (u7 : Value).ownBlock) (Kd.S_N (Kd.S_bound ho0)) (fun k_ hk_ => ⟨(Kd.fresh' (Kd.R_lt (by (with_reducible repeat (first | apply Kd.R_alloc | apply Kd.R_drewN | apply Kd.R_drew)); exact HO_6.out)) k_ hk_.2.1), (Kd.fresh' (Kd.N_lt (by (with_reducible repeat (first | apply Kd.N_alloc | apply Kd.N_drewN | apply Kd.N_drew)); exact HO_7.out)) k_ hk_.2.1)⟩)) (below_size (by repeat (first | (with_reducible first | exact HB.out | apply below_alloc | apply pw_below_drewN | apply below_drew1) | exact HB.out)))); have n3_ := Aside0.mk (below_step (by repeat (first | (with_reducible first | exact HB.out | apply below_alloc | apply pw_below_drewN | apply below_drew1) | exact HB.out)) hb); clear HO_6; clear HO_7; clear HB; have HO_6 := n0_; have HO_7 := n1_; have HO200 := n2_; have HB := n3_; clear n0_ n1_ n2_ n3_; (try clear hb); (try clear hb2); (try clear hgn); (try clear hk); (try clear hi); (try clear ho0); obtain ⟨Ao81, co81, eo81⟩ := Kd.N_slice HO_7.out; subst eo81; obtain ⟨Ao82, co82, eo82⟩ := Kd.N_slice HO200.out; subst eo82) | (go_at_call 18; (with_reducible refine (watchkeeperref03_SameAll.calls kj7 _ _ x7_2 _ _ t196 false _ ?side1 ?side2 ?side3 ?side4 A74.out).mono ?_); (case side1 => repeat (first | exact (Kd.N_reads' HO_7.out).2.2 | (with_reducible refine Kd.C_alloc ?_ _) | (with_reducible refine Kd.C_drewN ?_ _) | (with_reducible refine Kd.C_drew ?_))); (case side2 => exact (Kd.N_reads' HO_7.out).2.1); (case side3 => repeat (first | exact (Kd.N_reads' HO200.out).2.2 | (with_reducible refine Kd.C_alloc ?_ _) | (with_reducible refine Kd.C_drewN ?_ _) | (with_reducible refine Kd.C_drew ?_))); (case side4 => exact (Kd.N_reads' HO200.out).2.1); rintro e w83 ⟨rfl, hb⟩; have n0_ := Aside0.mk (Kd.R_below (by (with_reducible repeat (first | apply Kd.R_alloc | apply Kd.R_drewN | apply Kd.R_drew)); exact HO_6.out) hb); have n1_ := Aside0.mk (Kd.N_below (by (with_reducible repeat (first | apply Kd.N_alloc | apply Kd.N_drewN | apply Kd.N_drew)); exact HO_7.out) hb); have n2_ := Aside0.mk (Kd.N_below (by (with_reducible repeat (first | apply Kd.N_alloc | apply Kd.N_drewN | apply Kd.N_drew)); exact HO200.out) hb); have n3_ := Aside0.mk (below_step (by repeat (first | (with_reducible first | exact HB.out | apply below_alloc | apply pw_below_drewN | apply below_drew1) | exact HB.out)) hb); clear HO_6; clear HO_7; clear HO200; clear HB; have HO_6 := n0_; have HO_7 := n1_; have HO200 := n2_; have HB := n3_; clear n0_ n1_ n2_ n3_; (try clear hb); (try clear hb2); (try clear hgn); (try clear hk); (try clear hi)))
                      go_ret
                      exact ⟨by first | rfl | (simp [errW_none, errW_some] <;> rfl) | (simp [*, errW_none, errW_some] <;> rfl), by repeat (first | (with_reducible first | exact HB.out | apply below_alloc | apply pw_below_drewN | apply below_drew1) | exact HB.out)⟩
                  · replace c73 := Bool.eq_false_iff.mpr c73
                    subst c73
                    have H1 : (some false) = some r := by rw [if_neg (show ¬ (false = true) by decide)] at H; exact H
                    clear H
                    have H := H1
                    clear H1
                    obtain rfl := Option.some.inj H
                    go_wp2_with (first | ((with_reducible refine gate_callee (f := 13) rfl ?_); refine goesL_ (some 89) rfl rfl Try.func13 (by kernel_rfl) rfl #[.slice A0 l0.length c0] rfl (by (try simp only [List.map_toArray, List.map_cons, List.map_nil]); first | done | rfl | (simp only [List.length_drop, List.length_take]; rfl)) ?_; (with_reducible refine (mbap_Cut.calls _ _ l0 t196 t197 t198 _ ?side1 ?side2 A72.out).mono ?_); (case side1 => repeat (first | exact (Kd.C_below HR0.out HB.out) | (with_reducible refine Kd.C_alloc ?_ _) | (with_reducible refine Kd.C_drewN ?_ _) | (with_reducible refine Kd.C_drew ?_))); (case side2 => exact HC0.out); rintro e w84 ⟨v199, rfl, ho0, hb⟩; refine ⟨_, rfl, ?_⟩; have n0_ := Aside0.mk (Kd.R_below (by (with_reducible repeat (first | apply Kd.R_alloc | apply Kd.R_drewN | apply Kd.R_drew)); exact HO_6.out) hb); have n1_ := Aside0.mk (Kd.N_elder' (by (with_reducible repeat (first | apply Kd.N_alloc | apply Kd.N_drewN | apply Kd.N_drew)); exact HO_7.out) (Kd.S_base ho0) hb); have n2_ := Aside0.mk (Kd.N_lower (Kd.N_mono (ok' := fun k_ => some k_ ≠ (u6 : Value).ownBlock ∧ some k_ ≠ (u7 : Value).ownBlock) (Kd.S_N (Kd.S_bound ho0)) (fun k_ hk_ => ⟨(Kd.fresh' (Kd.R_lt (by (with_reducible repeat (first | apply Kd.R_alloc | apply Kd.R_drewN | apply Kd.R_drew)); exact HO_6.out)) k_ hk_.2.1), (Kd.fresh' (Kd.N_lt (by (with_reducible repeat (first | apply Kd.N_alloc | apply Kd.N_drewN | apply Kd.N_drew)); exact HO_7.out)) k_ hk_.2.1)⟩)) (below_size (by repeat (first | (with_reducible first | exact HB.out | apply below_alloc | apply pw_below_drewN | apply below_drew1) | exact HB.out)))); have n3_ := Aside0.mk (below_step (by repeat (first | (with_reducible first | exact HB.out | apply below_alloc | apply pw_below_drewN | apply below_drew1) | exact HB.out)) hb); clear HO_6; clear HO_7; clear HB; have HO_6 := n0_; have HO_7 := n1_; have HO200 := n2_; have HB := n3_; clear n0_ n1_ n2_ n3_; (try clear hb); (try clear hb2); (try clear hgn); (try clear hk); (try clear hi); (try clear ho0)))
                    go_ret
                    exact ⟨by first | rfl | (simp [errW_none, errW_some] <;> rfl) | (simp [*, errW_none, errW_some] <;> rfl), by repeat (first | (with_reducible first | exact HB.out | apply below_alloc | apply pw_below_drewN | apply below_drew1) | exact HB.out)⟩

/-- THE ONE PURE STATEMENT of watchkeeperlaw03_MbapPieces: yours. -/
def watchkeeperlaw03_MbapPieces.Pure : Prop := ∀ (l0 : List Int) (l1 : List Int), l0.length ≤ maxLen → l0.length * 1 ≤ 140737488351232 → (∀ x ∈ l0, (Lit.int .u8 x).wf = true) → l1.length ≤ maxLen → l1.length * 1 ≤ 140737488351232 → (∀ x ∈ l1, (Lit.int .u8 x).wf = true) → ∃ k, watchkeeperlaw03_MbapPieces.f k l0 l1 = some true
theorem watchkeeperlaw03_MbapPieces.walk (P : watchkeeperlaw03_MbapPieces.Pure) (a0 : Option Addr) (len0 cap0 : Nat) (z0 : List Int) (a1 : Option Addr) (len1 cap1 : Nat) (z1 : List Int) (w : World) (w0 : (a0 = none ∧ len0 = 0 ∧ cap0 = 0 ∧ z0 = []) ∨ ∃ x, a0 = some x ∧ len0 ≤ cap0 ∧ cap0 ≤ maxLen ∧ z0.length = cap0 ∧ (∀ i, i < z0.length → w.cell? (x.add i) = some (.int .u8 (z0.getD i 0))) ∧ ∀ n ∈ z0, (Lit.int .u8 n).wf = true) (y0 : len0 * 1 ≤ 140737488351232) (w1 : (a1 = none ∧ len1 = 0 ∧ cap1 = 0 ∧ z1 = []) ∨ ∃ x, a1 = some x ∧ len1 ≤ cap1 ∧ cap1 ≤ maxLen ∧ z1.length = cap1 ∧ (∀ i, i < z1.length → w.cell? (x.add i) = some (.int .u8 (z1.getD i 0))) ∧ ∀ n ∈ z1, (Lit.int .u8 n).wf = true) (y1 : len1 * 1 ≤ 140737488351232) :
    Calls Try.prog 6 #[.slice a0 len0 cap0, .slice a1 len1 cap1] w fun e w' => e = .returned (.bool true) ∧ Below w.heap.size w w' := by
  obtain ⟨l0, rfl, hr0, hm0, hw0, hc0⟩ := ReadsInt.ofRowC w0
  obtain ⟨l1, rfl, hr1, hm1, hw1, hc1⟩ := ReadsInt.ofRowC w1
  obtain ⟨k, h⟩ := P l0 l1 hm0 y0 hw0 hm1 y1 hw1
  refine (watchkeeperlaw03_MbapPieces.calls k _ _ l0 _ _ l1 true w (Kd.C_of_reads (d := (0 : Int)) (h1 := fun _ => rfl) hr0) hc0 (Kd.C_of_reads (d := (0 : Int)) (h1 := fun _ => rfl) hr1) hc1 h).mono ?_
  rintro e w' ⟨rfl, hd⟩
  exact ⟨rfl, hd⟩

end Go.Proofs.Ytkmmkoiibcdmeaa.QD
