/- Contracts of the functions that the law reaches, and what each comes to as a plain function; laid by a program of mine over the printer. -/
import Derived.Test.YtkmmkoiibcdmeaaCV
import Derived.Test.YtkmmkoiibcdmeaaQE1
import Derived.Test.YtkmmkoiibcdmeaaQE3
namespace Go.Proofs.Ytkmmkoiibcdmeaa.QD
open Go.RowKit Go.Proofs.YtkmmkoiibcdmeaaW.PrintWords Go.Proofs.YtkmmkoiibcdmeaaW.PrintLast Go.Proofs.YtkmmkoiibcdmeaaW.PrintMore
attribute [local go_sem] max2_int min2_int max_two min_two max_three min_three max_four min_four   -- for this text's walks alone
set_option linter.unusedVariables false
set_option linter.unusedSimpArgs false

/-! ### watchkeeperlaw03_MbapMany: function 8 -/
mutual
def watchkeeperlaw03_MbapMany.l0 : Nat → Int → Int → List Int → Bool → List Int → Int → Int → Option (Bool)
  | 0, _, _, _, _, _, _, _ => none
  | k + 1, x0, x1, x2, x7, x8, x9, x10 => if x10 < (x2.length : Int) then (if 0 ≤ x10 then (if 0 ≤ (wrap64 (1 + (Int.tmod (wrap64 (rd x2 x10)) 253))) then (if (wrap64 (1 + (Int.tmod (wrap64 (rd x2 x10)) 253)) : Int).toNat ≤ 281474976710656 then ((some (List.replicate (wrap64 (1 + (Int.tmod (wrap64 (rd x2 x10)) 253)) : Int).toNat 0 : List Int)).bind fun y275 => (if 0 < (y275.length : Int) then ((mbap_Put.f (IntKind.u16.wrap (x0 + (IntKind.u16.wrap (x10)))) x1 (y275.set (0 : Int).toNat ((x10) % 256))).bind fun t279 => (if x8.length + t279.length < 140737488355328 then (watchkeeperlaw03_MbapMany.l0 k x0 x1 x2 x7 (x8 ++ t279) (wrap64 ((wrap64 (x9 + (wrap64 (1 + (Int.tmod (wrap64 (rd x2 x10)) 253))))) + 7)) (wrap64 (x10 + 1))) else (none))) else (none))) else (none)) else (none)) else (none)) else ((mbap_Cut.f x8).bind fun bt285 => (if (x8.length : Int) = x9 then (if bt285.2.1 = x9 then (if bt285.2.2 = 0 then (watchkeeperlaw03_MbapMany.j1 k x0 x1 x2 x7 bt285.1 ((bt285.1.length : Int) != (x2.length : Int))) else (watchkeeperlaw03_MbapMany.j1 k x0 x1 x2 x7 bt285.1 true)) else (watchkeeperlaw03_MbapMany.j1 k x0 x1 x2 x7 bt285.1 true)) else (watchkeeperlaw03_MbapMany.j1 k x0 x1 x2 x7 bt285.1 true)))
def watchkeeperlaw03_MbapMany.j1 : Nat → Int → Int → List Int → Bool → List (S26) → Bool → Option (Bool)
  | 0, _, _, _, _, _, _ => none
  | k + 1, x0, x1, x2, x7, x13, x80 => if x80 = true then (some false) else (watchkeeperlaw03_MbapMany.l1 k x0 x1 x2 x7 x13 0)
def watchkeeperlaw03_MbapMany.l1 : Nat → Int → Int → List Int → Bool → List (S26) → Int → Option (Bool)
  | 0, _, _, _, _, _, _ => none
  | k + 1, x0, x1, x2, x7, x13, x16 => if x16 < (x13.length : Int) then (if 0 ≤ x16 then (if ((rd_T26 x13 x16).f0) = (IntKind.u16.wrap (x0 + (IntKind.u16.wrap (x16)))) then (if ((rd_T26 x13 x16).f1) = x1 then (if x16 < (x2.length : Int) then (if (((rd_T26 x13 x16).f2).length : Int) = (wrap64 (1 + (Int.tmod (wrap64 (rd x2 x16)) 253))) then (if 0 < (((rd_T26 x13 x16).f2).length : Int) then (if (rd ((rd_T26 x13 x16).f2) 0) = ((x16) % 256) then (watchkeeperlaw03_MbapMany.l1 k x0 x1 x2 x7 x13 (wrap64 (x16 + 1))) else (some false)) else (none)) else (some false)) else (none)) else (some false)) else (some false)) else (none)) else (some x7)
end
def watchkeeperlaw03_MbapMany.f (k : Nat) (a0 : Int) (a1 : Int) (l2 : List Int) : Option (Bool) := (watchkeeperlaw03_head.f).bind fun t273 => (if (l2.length : Int) > 60 then (some t273) else (watchkeeperlaw03_MbapMany.l0 k a0 a1 l2 t273 ([] : List Int) 0 0))
theorem watchkeeperlaw03_MbapMany.mono_l : ∀ k, (∀ y0 y1 y2 y3 y4 y5 y6, LeO (watchkeeperlaw03_MbapMany.l0 k y0 y1 y2 y3 y4 y5 y6) (watchkeeperlaw03_MbapMany.l0 (k + 1) y0 y1 y2 y3 y4 y5 y6)) ∧ (∀ y0 y1 y2 y3 y4 y5, LeO (watchkeeperlaw03_MbapMany.j1 k y0 y1 y2 y3 y4 y5) (watchkeeperlaw03_MbapMany.j1 (k + 1) y0 y1 y2 y3 y4 y5)) ∧ (∀ y0 y1 y2 y3 y4 y5, LeO (watchkeeperlaw03_MbapMany.l1 k y0 y1 y2 y3 y4 y5) (watchkeeperlaw03_MbapMany.l1 (k + 1) y0 y1 y2 y3 y4 y5))
  | 0 => ⟨fun _ _ _ _ _ _ _ r h => by simp [watchkeeperlaw03_MbapMany.l0] at h, fun _ _ _ _ _ _ r h => by simp [watchkeeperlaw03_MbapMany.j1] at h, fun _ _ _ _ _ _ r h => by simp [watchkeeperlaw03_MbapMany.l1] at h⟩
  | k + 1 => by
    obtain ⟨ih0, ih1, ih2⟩ := watchkeeperlaw03_MbapMany.mono_l k
    refine ⟨?_, ?_, ?_⟩
    · intro y0 y1 y2 y3 y4 y5 y6
      unfold watchkeeperlaw03_MbapMany.l0
      repeat' first
      | (with_reducible exact ih0 _ _ _ _ _ _ _)
      | (with_reducible exact ih1 _ _ _ _ _ _)
      | (with_reducible exact ih2 _ _ _ _ _ _)
      | (with_reducible exact LeO.refl _)
      | (with_reducible exact LeO.none _)
      | (with_reducible refine LeO.ite ?_ ?_)
      | (with_reducible refine LeO.bind ?_ (fun _ => ?_))
      | exact ih0 _ _ _ _ _ _ _
      | exact ih1 _ _ _ _ _ _
      | exact ih2 _ _ _ _ _ _
      | exact LeO.none _
      | refine LeO.ite ?_ ?_
      | refine LeO.bind ?_ (fun _ => ?_)
    · intro y0 y1 y2 y3 y4 y5
      unfold watchkeeperlaw03_MbapMany.j1
      repeat' first
      | (with_reducible exact ih0 _ _ _ _ _ _ _)
      | (with_reducible exact ih1 _ _ _ _ _ _)
      | (with_reducible exact ih2 _ _ _ _ _ _)
      | (with_reducible exact LeO.refl _)
      | (with_reducible exact LeO.none _)
      | (with_reducible refine LeO.ite ?_ ?_)
      | (with_reducible refine LeO.bind ?_ (fun _ => ?_))
      | exact ih0 _ _ _ _ _ _ _
      | exact ih1 _ _ _ _ _ _
      | exact ih2 _ _ _ _ _ _
      | exact LeO.none _
      | refine LeO.ite ?_ ?_
      | refine LeO.bind ?_ (fun _ => ?_)
    · intro y0 y1 y2 y3 y4 y5
      unfold watchkeeperlaw03_MbapMany.l1
      repeat' first
      | (with_reducible exact ih0 _ _ _ _ _ _ _)
      | (with_reducible exact ih1 _ _ _ _ _ _)
      | (with_reducible exact ih2 _ _ _ _ _ _)
      | (with_reducible exact LeO.refl _)
      | (with_reducible exact LeO.none _)
      | (with_reducible refine LeO.ite ?_ ?_)
      | (with_reducible refine LeO.bind ?_ (fun _ => ?_))
      | exact ih0 _ _ _ _ _ _ _
      | exact ih1 _ _ _ _ _ _
      | exact ih2 _ _ _ _ _ _
      | exact LeO.none _
      | refine LeO.ite ?_ ?_
      | refine LeO.bind ?_ (fun _ => ?_)
theorem watchkeeperlaw03_MbapMany.mono : ∀ a0 a1 a2 k, LeO (watchkeeperlaw03_MbapMany.f k a0 a1 a2) (watchkeeperlaw03_MbapMany.f (k + 1) a0 a1 a2) := by
  intro a0 a1 a2 k
  obtain ⟨ih0, ih1, ih2⟩ := watchkeeperlaw03_MbapMany.mono_l k
  unfold watchkeeperlaw03_MbapMany.f
  repeat' first
      | (with_reducible exact ih0 _ _ _ _ _ _ _)
      | (with_reducible exact ih1 _ _ _ _ _ _)
      | (with_reducible exact ih2 _ _ _ _ _ _)
      | (with_reducible exact LeO.refl _)
      | (with_reducible exact LeO.none _)
      | (with_reducible refine LeO.ite ?_ ?_)
      | (with_reducible refine LeO.bind ?_ (fun _ => ?_))
      | exact ih0 _ _ _ _ _ _ _
      | exact ih1 _ _ _ _ _ _
      | exact ih2 _ _ _ _ _ _
      | exact LeO.none _
      | refine LeO.ite ?_ ?_
      | refine LeO.bind ?_ (fun _ => ?_)
set_option maxHeartbeats 8000000 in
set_option maxRecDepth 100000 in
theorem watchkeeperlaw03_MbapMany.calls (k : Nat) (a0 : Int) (a1 : Int) (A2 : Option Addr) (c2 : Nat) (l2 : List Int) (r : Bool) (w : World) (hr2 : Kd.C (Kd.int .u8) w A2 l2.length l2) (hc2 : l2.length ≤ c2) (h : watchkeeperlaw03_MbapMany.f k a0 a1 l2 = some r) :
    Calls Try.prog 8 #[.int .u16 a0, .int .u8 a1, .slice A2 l2.length c2] w fun e w' => e = .returned (.bool r) ∧ Below w.heap.size w w' := by
  have hu26 := Try.underlying26
  have HR2 := Aside0.mk hr2
  have HC2 := Aside0.mk hc2
  clear hr2 hc2
  have HB := Aside0.mk (Below.refl w.heap.size w)
  have H : ((watchkeeperlaw03_head.f).bind fun t273 => (if (l2.length : Int) > 60 then (some t273) else (watchkeeperlaw03_MbapMany.l0 k a0 a1 l2 t273 ([] : List Int) 0 0))) = some r := h
  clear h
  replace H := Option.bind_eq_some_iff.mp H
  obtain ⟨t273, A40, H⟩ := H
  replace H : (if (l2.length : Int) > 60 then (some t273) else (watchkeeperlaw03_MbapMany.l0 k a0 a1 l2 t273 ([] : List Int) 0 0)) = some r := H
  have A4 := Aside0.mk A40
  clear A40
  by_cases c5 : (l2.length : Int) > 60
  · rw [if_pos c5] at H
    have c5b0 : decide (60 < (l2.length : Int)) = true := decide_eq_true c5
    have c5b1 : decide (60 < l2.length) = true := decide_eq_true (by omega)
    clear c5
    obtain rfl := Option.some.inj H
    go_enter Try.func8, Try.ntmps8
    go_wp2_with (first | (go_at_call 9; (with_reducible refine (watchkeeperlaw03_head.calls  t273 _ A4.out).mono ?_); rintro e w6 ⟨rfl, hb⟩; have n0_ := Aside0.mk (below_step (by repeat (first | (with_reducible first | exact HB.out | apply below_alloc | apply pw_below_drewN | apply below_drew1) | exact HB.out)) hb); clear HB; have HB := n0_; clear n0_; (try clear hb); (try clear hb2); (try clear hgn); (try clear hk); (try clear hi)))
    repeat (go_quiet (first | (go_at_call 9; (with_reducible refine (watchkeeperlaw03_head.calls  t273 _ A4.out).mono ?_); rintro e w6 ⟨rfl, hb⟩; have n0_ := Aside0.mk (below_step (by repeat (first | (with_reducible first | exact HB.out | apply below_alloc | apply pw_below_drewN | apply below_drew1) | exact HB.out)) hb); clear HB; have HB := n0_; clear n0_; (try clear hb); (try clear hb2); (try clear hgn); (try clear hk); (try clear hi))); try go_wp2_with (first | (go_at_call 9; (with_reducible refine (watchkeeperlaw03_head.calls  t273 _ A4.out).mono ?_); rintro e w6 ⟨rfl, hb⟩; have n0_ := Aside0.mk (below_step (by repeat (first | (with_reducible first | exact HB.out | apply below_alloc | apply pw_below_drewN | apply below_drew1) | exact HB.out)) hb); clear HB; have HB := n0_; clear n0_; (try clear hb); (try clear hb2); (try clear hgn); (try clear hk); (try clear hi))))
    go_ret
    exact ⟨by first | rfl | (simp [errW_none, errW_some] <;> rfl) | (simp [*, errW_none, errW_some] <;> rfl), by repeat (first | (with_reducible first | exact HB.out | apply below_alloc | apply pw_below_drewN | apply below_drew1) | exact HB.out)⟩
  · rw [if_neg c5] at H
    have c5b0 : decide (60 < (l2.length : Int)) = false := decide_eq_false c5
    have c5b1 : decide (60 < l2.length) = false := decide_eq_false (by omega)
    clear c5
    have H' := Aside0.mk H
    clear H
    go_enter Try.func8, Try.ntmps8
    go_wp2_with (first | (go_at_call 9; (with_reducible refine (watchkeeperlaw03_head.calls  t273 _ A4.out).mono ?_); rintro e w7 ⟨rfl, hb⟩; have n0_ := Aside0.mk (below_step (by repeat (first | (with_reducible first | exact HB.out | apply below_alloc | apply pw_below_drewN | apply below_drew1) | exact HB.out)) hb); clear HB; have HB := n0_; clear n0_; (try clear hb); (try clear hb2); (try clear hgn); (try clear hk); (try clear hi)))
    repeat (go_quiet (first | (go_at_call 9; (with_reducible refine (watchkeeperlaw03_head.calls  t273 _ A4.out).mono ?_); rintro e w7 ⟨rfl, hb⟩; have n0_ := Aside0.mk (below_step (by repeat (first | (with_reducible first | exact HB.out | apply below_alloc | apply pw_below_drewN | apply below_drew1) | exact HB.out)) hb); clear HB; have HB := n0_; clear n0_; (try clear hb); (try clear hb2); (try clear hgn); (try clear hk); (try clear hi))); try go_wp2_with (first | (go_at_call 9; (with_reducible refine (watchkeeperlaw03_head.calls  t273 _ A4.out).mono ?_); rintro e w7 ⟨rfl, hb⟩; have n0_ := Aside0.mk (below_step (by repeat (first | (with_reducible first | exact HB.out | apply below_alloc | apply pw_below_drewN | apply below_drew1) | exact HB.out)) hb); clear HB; have HB := n0_; clear n0_; (try clear hb); (try clear hb2); (try clear hgn); (try clear hk); (try clear hi))))
    go_loopg [8, 9, 10] k (fun kq v8 v9 v10 w' => ∃ (x8_1 : List Int) (x9_1 : Int) (x10_1 : Int), v9 = .int .i64 x9_1 ∧ v10 = .int .i64 x10_1 ∧ Aside0 (watchkeeperlaw03_MbapMany.l0 kq a0 a1 l2 t273 x8_1 x9_1 x10_1 = some r) ∧ Aside0 (kq ≤ k) ∧ Aside0 (Kd.R (Kd.int .u8) 5 w' w.heap.size (fun _ => True) v8 x8_1) ∧ Aside0 (Below w.heap.size w w'))
    case atStart => exact ⟨(([] : List Int)), (0), (0), (by first | rfl | (simp; done) | (simp [*]; done)), (by first | rfl | (simp; done) | (simp [*]; done)), H', ⟨Nat.le_refl _⟩, ⟨by first | exact Kd.R_nil _ _ _ _ _ | exact Kd.N_nil _ _ _ _ _ | exact Kd.V_nil _ _ _ _ _ | exact Kd.Q_nil _ _ _ _ _ | exact Kd.S_nil _ _ _ _ _⟩, ⟨by repeat (first | (with_reducible first | exact HB.out | apply below_alloc | apply pw_below_drewN | apply below_drew1) | exact HB.out)⟩⟩
    case round =>
      clear H'
      try clear c2
      try clear p2
      try clear c5
      try clear c5b0
      try clear c5b1
      obtain ⟨x8_1, x9_1, x10_1, rfl, rfl, HA, HK1, HO_8, HB⟩ := hrel
      cases gk with
      | zero => exact absurd HA.out (by simp [watchkeeperlaw03_MbapMany.l0])
      | succ k1 =>
        have H := HA.out
        clear HA
        simp only [watchkeeperlaw03_MbapMany.l0] at H
        by_cases c8 : x10_1 < (l2.length : Int)
        · rw [if_pos c8] at H
          have c8b0 : decide (x10_1 < (l2.length : Int)) = true := decide_eq_true c8
          clear c8
          by_cases c9 : 0 ≤ x10_1
          · rw [if_pos c9] at H
            have c9b0 : decide (0 ≤ x10_1) = true := decide_eq_true c9
            clear c9
            obtain ⟨ji10, hji10⟩ : ∃ j_ : Int, (wrap64 (1 + (Int.tmod (wrap64 (rd l2 x10_1)) 253))) = j_ := ⟨_, rfl⟩
            replace H : (if 0 ≤ (ji10) then (if (ji10 : Int).toNat ≤ 281474976710656 then ((some (List.replicate (ji10 : Int).toNat 0 : List Int)).bind fun y275 => (if 0 < (y275.length : Int) then ((mbap_Put.f (IntKind.u16.wrap (a0 + (IntKind.u16.wrap (x10_1)))) a1 (y275.set (0 : Int).toNat ((x10_1) % 256))).bind fun t279 => (if x8_1.length + t279.length < 140737488355328 then (watchkeeperlaw03_MbapMany.l0 k1 a0 a1 l2 t273 (x8_1 ++ t279) (wrap64 ((wrap64 (x9_1 + (ji10))) + 7)) (wrap64 (x10_1 + 1))) else (none))) else (none))) else (none)) else (none)) = some r := by first | (rw [hji10] at H; exact H) | (simp only [hji10] at H ⊢; exact H)
            have hji10w : (IntKind.i64.wrap (1 + (Int.tmod (wrap64 (rd l2 x10_1)) 253))) = ji10 := (i64_w _).trans hji10
            by_cases c11 : 0 ≤ (ji10)
            · rw [if_pos c11] at H
              have c11b0 := eq_true c11
              have c11b1 : decide (0 ≤ (ji10)) = true := decide_eq_true c11
              clear c11
              by_cases c12 : (ji10 : Int).toNat ≤ 281474976710656
              · rw [if_pos c12] at H
                have c12b0 := eq_true c12
                have c12b1 : decide ((ji10 : Int).toNat ≤ 281474976710656) = true := decide_eq_true c12
                clear c12
                obtain ⟨y275, hy275⟩ : ∃ y_ : List Int, y_ = (List.replicate (ji10 : Int).toNat 0) := ⟨_, rfl⟩
                replace H : (if 0 < (y275.length : Int) then ((mbap_Put.f (IntKind.u16.wrap (a0 + (IntKind.u16.wrap (x10_1)))) a1 (y275.set (0 : Int).toNat ((x10_1) % 256))).bind fun t279 => (if x8_1.length + t279.length < 140737488355328 then (watchkeeperlaw03_MbapMany.l0 k1 a0 a1 l2 t273 (x8_1 ++ t279) (wrap64 ((wrap64 (x9_1 + (ji10))) + 7)) (wrap64 (x10_1 + 1))) else (none))) else (none)) = some r := by first | (rw [hy275]; with_reducible exact H) | (have H2_ := (Option.bind_some _ _).symm.trans H; rw [hy275]; with_reducible exact H2_) | (have H2_ := (Option.bind_some _ _).symm.trans H; with_reducible exact H2_) | with_reducible exact H | (rw [hy275]; exact H) | exact H
                have Ny275 := Aside0.mk hy275
                clear hy275
                by_cases c13 : 0 < (y275.length : Int)
                · rw [if_pos c13] at H
                  have c13b0 : decide (0 < (y275.length : Int)) = true := decide_eq_true c13
                  have c13b1 : decide (0 < y275.length) = true := decide_eq_true (by omega)
                  clear c13
                  obtain ⟨y278, hy278⟩ : ∃ y_ : List Int, y_ = (y275.set (0 : Int).toNat ((x10_1) % 256)) := ⟨_, rfl⟩
                  replace H : ((mbap_Put.f (IntKind.u16.wrap (a0 + (IntKind.u16.wrap (x10_1)))) a1 y278).bind fun t279 => (if x8_1.length + t279.length < 140737488355328 then (watchkeeperlaw03_MbapMany.l0 k1 a0 a1 l2 t273 (x8_1 ++ t279) (wrap64 ((wrap64 (x9_1 + (ji10))) + 7)) (wrap64 (x10_1 + 1))) else (none))) = some r := by first | (rw [hy278]; with_reducible exact H) | (have H2_ := (Option.bind_some _ _).symm.trans H; rw [hy278]; with_reducible exact H2_) | (have H2_ := (Option.bind_some _ _).symm.trans H; with_reducible exact H2_) | with_reducible exact H | (rw [hy278]; exact H) | exact H
                  have Ny278 := Aside0.mk hy278
                  clear hy278
                  replace H := Option.bind_eq_some_iff.mp H
                  obtain ⟨t279, A150, H⟩ := H
                  replace H : (if x8_1.length + t279.length < 140737488355328 then (watchkeeperlaw03_MbapMany.l0 k1 a0 a1 l2 t273 (x8_1 ++ t279) (wrap64 ((wrap64 (x9_1 + (ji10))) + 7)) (wrap64 (x10_1 + 1))) else (none)) = some r := H
                  have A15 := Aside0.mk A150
                  clear A150
                  by_cases c16 : x8_1.length + t279.length < 140737488355328
                  · rw [if_pos c16] at H
                    have LMc16 := Aside0.mk c16
                    clear c16
                    obtain ⟨y282, hy282⟩ : ∃ y_ : List Int, y_ = (x8_1 ++ t279) := ⟨_, rfl⟩
                    replace H : (watchkeeperlaw03_MbapMany.l0 k1 a0 a1 l2 t273 y282 (wrap64 ((wrap64 (x9_1 + (ji10))) + 7)) (wrap64 (x10_1 + 1))) = some r := by first | (rw [hy282]; with_reducible exact H) | (have H2_ := (Option.bind_some _ _).symm.trans H; rw [hy282]; with_reducible exact H2_) | (have H2_ := (Option.bind_some _ _).symm.trans H; with_reducible exact H2_) | with_reducible exact H | (rw [hy282]; exact H) | exact H
                    have Ny282 := Aside0.mk hy282
                    clear hy282
                    have H' := Aside0.mk H
                    clear H
                    have p274 : 0 ≤ (x10_1 : Int) := of_decide_eq_true (by first | (with_reducible assumption) | assumption)
                    have q274 : x10_1 < (l2.length : Int) := of_decide_eq_true (by first | (with_reducible assumption) | assumption)
                    obtain ⟨ad274, e274, hx274_0⟩ := Kd.at_int HR2.out x10_1 p274 q274
                    cases e274
                    replace hx274_0 := (HB.out.cell (World.block_lt_of_cell? w _ hx274_0)).trans hx274_0
                    replace p274 := eq_true p274
                    replace q274 := eq_true q274
                    go_wp2_with (first | ((with_reducible refine gate_dst (N := 36) rfl ?_); (try (refine gate_guard (by rfl) ?_; dsimp only)); refine Kd.R_make (Kd.int .u8) _ 5 rfl (N := 36) rfl 22 _ _ rfl ji10 rfl rfl Try.underlying22 (.int .u8 0) 1 info5 rfl (by decide) (by omega) 0 (ok := fun _ => True) (okp := fun _ => True) rfl (fun _ hk => hk) trivial (of_decide_eq_true (by first | (with_reducible assumption) | assumption)) (Nat.le_trans (Nat.mul_le_mul_right _ (of_decide_eq_true (by first | (with_reducible assumption) | assumption) : ji10.toNat ≤ 281474976710656)) (by omega)) (Below.refl _ _) (Nat.le_refl _) ?_; intro v276 w17 ho18 hb hg_ hnew_; clear hg_ hnew_; (first | rw [← Ny275.out] at ho18 | (simp only [Int.reduceToNat] at ho18; rw [← Ny275.out] at ho18)); have n0_ := Aside0.mk (Kd.R_elder' (by (with_reducible repeat (first | apply Kd.R_alloc | apply Kd.R_drewN | apply Kd.R_drew)); exact HO_8.out) (Kd.R_base ho18) hb); have n1_ := Aside0.mk (Kd.R_lower (Kd.R_new' ho18 (Kd.R_lt (by (with_reducible repeat (first | apply Kd.R_alloc | apply Kd.R_drewN | apply Kd.R_drew)); exact HO_8.out))) (below_size (by repeat (first | (with_reducible first | exact HB.out | apply below_alloc | apply pw_below_drewN | apply below_drew1) | exact HB.out)))); have n2_ := Aside0.mk (below_step (by repeat (first | (with_reducible first | exact HB.out | apply below_alloc | apply pw_below_drewN | apply below_drew1) | exact HB.out)) hb); clear HO_8; clear HB; have HO_8 := n0_; have HO277 := n1_; have HB := n2_; clear n0_ n1_ n2_; clear hb ho18; have p14 : 0 ≤ (0 : Int) := (by omega); have q14 : (0 : Int) < ((y275.length : Int) : Int) := of_decide_eq_true (by first | (with_reducible assumption) | assumption); have qi14 : (0 < y275.length) = True := eq_true (by omega); obtain ⟨go14, co14, eo14, gb14, gl14, cl14, HG14⟩ := Kd.R_form HO277.out (by omega); (first | cases eo14 | (injection eo14 with ea_ en_ ec_; (first | subst ea_ | (injection ea_ with ea_; subst ea_)); subst ec_; clear en_)); have GB14 := Aside0.mk gb14; have GG14 := Aside0.mk HG14; clear gb14 gl14 HG14; obtain ⟨hx14_0, hf14_0⟩ := Kd.R_celln 0 HO277.out (0 : Int) p14 q14; (try rw [show ((0 : Int)).toNat = 0 from rfl] at hx14_0); (try simp only [Nat.reduceMul, Nat.zero_mul, Nat.zero_add, Nat.reduceAdd] at hx14_0); (try rw [show ((0 : Int)).toNat = 0 from rfl] at hf14_0); (try simp only [Nat.reduceMul, Nat.zero_mul, Nat.zero_add, Nat.reduceAdd] at hf14_0); replace p14 := eq_true p14; replace q14 := eq_true q14; have n_ := Aside0.mk (Kd.R_mono (ok' := (fun k_ => some k_ ≠ (u8 : Value).ownBlock)) HO277.out (fun k_ hk => hk.2)); clear HO277; have HO277 := n_; clear n_; obtain ⟨hy19_, hz19_⟩ := Kd.R_celln 0 HO277.out (0 : Int) (by omega) (of_decide_eq_true (by first | (with_reducible assumption) | assumption)); (try simp only [Int.reduceToNat, Int.toNat_zero, Int.toNat_ofNat, Nat.reduceMul, Nat.zero_mul, Nat.zero_add] at hy19_ hz19_); (try rw [show ((0 : Int)).toNat = 0 from rfl] at hy19_); (try rw [show ((0 : Int)).toNat = 0 from rfl] at hz19_); have HP19 := Kd.R_putg HO277.out (0 : Int) ((x10_1) % 256)) | ((with_reducible refine gate_store (t := 5) (p := 40) rfl ?_); (try (rw [drewN_self w17]; generalize hq_ : World.drewN w17 _ = w17; have n0_ := Aside0.mk (Kd.R_at hq_ HO_8.out); have n1_ := Aside0.mk (Kd.R_at hq_ HO277.out); have n2_ := Aside0.mk (below_at hq_ HB.out); clear hq_ HO_8 HO277 HB; have HO_8 := n0_; have HO277 := n1_; have HB := n2_; clear n0_ n1_ n2_; (try (have n_ := Aside0.mk (Kd.R_mono (ok' := (fun k_ => some k_ ≠ (u8 : Value).ownBlock)) HO277.out (fun k_ hk => hk.2)); clear HO277; have HO277 := n_; clear n_)); (try (obtain ⟨hy19_, hz19_⟩ := Kd.R_celln 0 HO277.out (0 : Int) (by omega) (of_decide_eq_true (by first | (with_reducible assumption) | assumption)))); (try (try simp only [Int.reduceToNat, Int.toNat_zero, Int.toNat_ofNat, Nat.reduceMul, Nat.zero_mul, Nat.zero_add] at hy19_ hz19_)); (try (try rw [show ((0 : Int)).toNat = 0 from rfl] at hy19_)); (try (try rw [show ((0 : Int)).toNat = 0 from rfl] at hz19_)); (try (have HP19 := Kd.R_putg HO277.out (0 : Int) ((x10_1) % 256))))); refine store_event (t := 5) (p := 40) (v := ?vo_w20) (w1 := (w17.setCell ⟨go14, (0 : Int).toNat, none⟩ (.int .u8 ((x10_1) % 256)))) ?hg ?ho ?hn ?hr ?_; (case ho => rfl); (case hg => rfl); (case hn => rfl); (case hr => first | (go_simp; done) | (go_simp; rfl)); intro w20 hw; have hg : w17.grownBy w20 (some go14) := (by rw [hw]; exact HP19.2); have hp_ : Kd.R (Kd.int .u8) 5 w20 w.heap.size (fun k_ => some k_ ≠ (u8 : Value).ownBlock) (.slice (some ⟨go14, 0, none⟩) y275.length co14) y278 := (by rw [hw, Ny278.out]; exact HP19.1); clear HP19; have n0_ := Aside0.mk (Kd.R_after (v := (.slice (some ⟨go14, 0, none⟩) y275.length co14)) (v1 := (.slice (some ⟨go14, 0, none⟩) y275.length co14)) (ok := (fun _ => True)) (by (with_reducible repeat (first | apply Kd.R_alloc | apply Kd.R_drewN | apply Kd.R_drew)); exact HO_8.out) hg (.inl rfl)); have n1_ := Aside0.mk (hp_); have n2_ := Aside0.mk ((by rw [hw]; exact below_set (HB.out) GB14.out : Below w.heap.size w w20)); clear HO_8; clear HO277; clear HB; have HO_8 := n0_; have HO277 := n1_; have HB := n2_; clear n0_ n1_ n2_; clear hg hw hp_) | (go_at_call 15; refine calls_of_args (args' := #[.agg #[.int .u16 (IntKind.u16.wrap (a0 + (IntKind.u16.wrap (x10_1)))), .int .u8 a1, .slice (some ⟨go14, 0, none⟩) y278.length co14]]) (by first | (rw [show y278.length = y275.length from (Kd.R_reads' HO277.out).1.symm] <;> rfl) | rfl) ?_; (with_reducible refine (mbap_Put.calls (IntKind.u16.wrap (a0 + (IntKind.u16.wrap (x10_1)))) a1 _ _ y278 t279 _ ?side1 ?side2 A15.out).mono ?_); (case side1 => repeat (first | exact (Kd.R_reads' HO277.out).2.2 | (with_reducible refine Kd.C_alloc ?_ _) | (with_reducible refine Kd.C_drewN ?_ _) | (with_reducible refine Kd.C_drew ?_))); (case side2 => rw [show y278.length = y275.length from (Kd.R_reads' HO277.out).1.symm]; exact (Kd.R_reads' HO277.out).2.1); rintro e w21 ⟨v280, rfl, ho0, hb⟩; have n0_ := Aside0.mk (Kd.R_elder' (by (with_reducible repeat (first | apply Kd.R_alloc | apply Kd.R_drewN | apply Kd.R_drew)); exact HO_8.out) (Kd.R_base ho0) hb); have n1_ := Aside0.mk (Kd.R_elder' (by (with_reducible repeat (first | apply Kd.R_alloc | apply Kd.R_drewN | apply Kd.R_drew)); exact HO277.out) (Kd.R_base ho0) hb); have n2_ := Aside0.mk (Kd.R_lower (Kd.R_new' (Kd.R_new' ho0 (Kd.R_lt (by (with_reducible repeat (first | apply Kd.R_alloc | apply Kd.R_drewN | apply Kd.R_drew)); exact HO_8.out))) (Kd.R_lt (by (with_reducible repeat (first | apply Kd.R_alloc | apply Kd.R_drewN | apply Kd.R_drew)); exact HO277.out))) (below_size (by repeat (first | (with_reducible first | exact HB.out | apply below_alloc | apply pw_below_drewN | apply below_drew1) | exact HB.out)))); have n3_ := Aside0.mk (below_step (by repeat (first | (with_reducible first | exact HB.out | apply below_alloc | apply pw_below_drewN | apply below_drew1) | exact HB.out)) hb); clear HO_8; clear HO277; clear HB; have HO_8 := n0_; have HO277 := n1_; have HO281 := n2_; have HB := n3_; clear n0_ n1_ n2_ n3_; (try clear hb); (try clear hb2); (try clear hgn); (try clear hk); (try clear hi); (try clear ho0); obtain ⟨Ao23, co23, eo23⟩ := Kd.R_slice HO281.out; subst eo23) | ((with_reducible refine gate_builtin (b := .append) (xs := #[.tmp 41, .tmp 49]) rfl ?_); (try (refine gate_guard (by rfl) ?_; dsimp only)); at_builtin; refine Kd.R_append_rows (Kd.int .u8) (w0 := w) w.heap.size rfl (.tmp 41) (.tmp 49) 22 5 (.int .u8 0) 1 rfl Try.underlying22 info5 rfl (by decide) (by omega) u8 x8_1 t279 _ _ _ (fun k_ => some k_ ≠ (.slice (some ⟨go14, 0, none⟩) y275.length co14 : Value).ownBlock ∧ some k_ ≠ (.slice Ao23 t279.length co23 : Value).ownBlock) (fun _ => False) rfl rfl ?aO ?aR (fun _ _ h => h) (fun _ h => h.elim) ?aF ?aB ?aS ?aL ?_; (case aR => repeat (first | exact (Kd.R_reads' HO281.out).2.2 | (with_reducible refine Kd.C_alloc ?_ _) | (with_reducible refine Kd.C_drewN ?_ _) | (with_reducible refine Kd.C_drew ?_))); (case aB => exact (by repeat (first | (with_reducible first | exact HB.out | apply below_alloc | apply pw_below_drewN | apply below_drew1) | exact HB.out))); (case aF => exact (fun k_ hk => ⟨Kd.fresh' (Kd.R_lt (by (with_reducible repeat (first | apply Kd.R_alloc | apply Kd.R_drewN | apply Kd.R_drew)); exact HO277.out)) k_ hk, Kd.fresh' (Kd.R_lt (by (with_reducible repeat (first | apply Kd.R_alloc | apply Kd.R_drewN | apply Kd.R_drew)); exact HO281.out)) k_ hk⟩)); (case aO => exact (by (with_reducible repeat (first | apply Kd.R_alloc | apply Kd.R_drewN | apply Kd.R_drew)); exact Kd.R_mono HO_8.out (fun _ hk => ⟨hk.1.2, hk.2⟩))); (case aS => exact (below_size (by repeat (first | (with_reducible first | exact HB.out | apply below_alloc | apply pw_below_drewN | apply below_drew1) | exact HB.out)))); (case aL => have := LMc16.out; omega); intro v283 w22 ho hb hg hat; rw [← Ny282.out] at ho; have n0_ := Aside0.mk (Kd.R_after (ok := (fun k_ => some k_ ≠ (.slice Ao23 t279.length co23 : Value).ownBlock)) (by (with_reducible repeat (first | apply Kd.R_alloc | apply Kd.R_drewN | apply Kd.R_drew)); exact Kd.R_mono HO277.out (fun _ hk => ⟨hk.2, hk.1⟩)) hg hat); have n1_ := Aside0.mk (Kd.R_after (ok := (fun k_ => some k_ ≠ (.slice (some ⟨go14, 0, none⟩) y275.length co14 : Value).ownBlock)) (by (with_reducible repeat (first | apply Kd.R_alloc | apply Kd.R_drewN | apply Kd.R_drew)); exact Kd.R_mono HO281.out (fun _ hk => ⟨hk.2, hk.1.2⟩)) hg hat); have n2_ := Aside0.mk (hb); have n3_ := Aside0.mk (ho); clear HO277; clear HO281; clear HB; clear HO_8; have HO277 := n0_; have HO281 := n1_; have HB := n2_; have HO284 := n3_; clear n0_ n1_ n2_ n3_; clear ho hb hg hat))
                    repeat (go_quiet (first | ((with_reducible refine gate_dst (N := 36) rfl ?_); (try (refine gate_guard (by rfl) ?_; dsimp only)); refine Kd.R_make (Kd.int .u8) _ 5 rfl (N := 36) rfl 22 _ _ rfl ji10 rfl rfl Try.underlying22 (.int .u8 0) 1 info5 rfl (by decide) (by omega) 0 (ok := fun _ => True) (okp := fun _ => True) rfl (fun _ hk => hk) trivial (of_decide_eq_true (by first | (with_reducible assumption) | assumption)) (Nat.le_trans (Nat.mul_le_mul_right _ (of_decide_eq_true (by first | (with_reducible assumption) | assumption) : ji10.toNat ≤ 281474976710656)) (by omega)) (Below.refl _ _) (Nat.le_refl _) ?_; intro v276 w17 ho18 hb hg_ hnew_; clear hg_ hnew_; (first | rw [← Ny275.out] at ho18 | (simp only [Int.reduceToNat] at ho18; rw [← Ny275.out] at ho18)); have n0_ := Aside0.mk (Kd.R_elder' (by (with_reducible repeat (first | apply Kd.R_alloc | apply Kd.R_drewN | apply Kd.R_drew)); exact HO_8.out) (Kd.R_base ho18) hb); have n1_ := Aside0.mk (Kd.R_lower (Kd.R_new' ho18 (Kd.R_lt (by (with_reducible repeat (first | apply Kd.R_alloc | apply Kd.R_drewN | apply Kd.R_drew)); exact HO_8.out))) (below_size (by repeat (first | (with_reducible first | exact HB.out | apply below_alloc | apply pw_below_drewN | apply below_drew1) | exact HB.out)))); have n2_ := Aside0.mk (below_step (by repeat (first | (with_reducible first | exact HB.out | apply below_alloc | apply pw_below_drewN | apply below_drew1) | exact HB.out)) hb); clear HO_8; clear HB; have HO_8 := n0_; have HO277 := n1_; have HB := n2_; clear n0_ n1_ n2_; clear hb ho18; have p14 : 0 ≤ (0 : Int) := (by omega); have q14 : (0 : Int) < ((y275.length : Int) : Int) := of_decide_eq_true (by first | (with_reducible assumption) | assumption); have qi14 : (0 < y275.length) = True := eq_true (by omega); obtain ⟨go14, co14, eo14, gb14, gl14, cl14, HG14⟩ := Kd.R_form HO277.out (by omega); (first | cases eo14 | (injection eo14 with ea_ en_ ec_; (first | subst ea_ | (injection ea_ with ea_; subst ea_)); subst ec_; clear en_)); have GB14 := Aside0.mk gb14; have GG14 := Aside0.mk HG14; clear gb14 gl14 HG14; obtain ⟨hx14_0, hf14_0⟩ := Kd.R_celln 0 HO277.out (0 : Int) p14 q14; (try rw [show ((0 : Int)).toNat = 0 from rfl] at hx14_0); (try simp only [Nat.reduceMul, Nat.zero_mul, Nat.zero_add, Nat.reduceAdd] at hx14_0); (try rw [show ((0 : Int)).toNat = 0 from rfl] at hf14_0); (try simp only [Nat.reduceMul, Nat.zero_mul, Nat.zero_add, Nat.reduceAdd] at hf14_0); replace p14 := eq_true p14; replace q14 := eq_true q14; have n_ := Aside0.mk (Kd.R_mono (ok' := (fun k_ => some k_ ≠ (u8 : Value).ownBlock)) HO277.out (fun k_ hk => hk.2)); clear HO277; have HO277 := n_; clear n_; obtain ⟨hy19_, hz19_⟩ := Kd.R_celln 0 HO277.out (0 : Int) (by omega) (of_decide_eq_true (by first | (with_reducible assumption) | assumption)); (try simp only [Int.reduceToNat, Int.toNat_zero, Int.toNat_ofNat, Nat.reduceMul, Nat.zero_mul, Nat.zero_add] at hy19_ hz19_); (try rw [show ((0 : Int)).toNat = 0 from rfl] at hy19_); (try rw [show ((0 : Int)).toNat = 0 from rfl] at hz19_); have HP19 := Kd.R_putg HO277.out (0 : Int) ((x10_1) % 256)) | ((with_reducible refine gate_store (t := 5) (p := 40) rfl ?_); (try (rw [drewN_self w17]; generalize hq_ : World.drewN w17 _ = w17; have n0_ := Aside0.mk (Kd.R_at hq_ HO_8.out); have n1_ := Aside0.mk (Kd.R_at hq_ HO277.out); have n2_ := Aside0.mk (below_at hq_ HB.out); clear hq_ HO_8 HO277 HB; have HO_8 := n0_; have HO277 := n1_; have HB := n2_; clear n0_ n1_ n2_; (try (have n_ := Aside0.mk (Kd.R_mono (ok' := (fun k_ => some k_ ≠ (u8 : Value).ownBlock)) HO277.out (fun k_ hk => hk.2)); clear HO277; have HO277 := n_; clear n_)); (try (obtain ⟨hy19_, hz19_⟩ := Kd.R_celln 0 HO277.out (0 : Int) (by omega) (of_decide_eq_true (by first | (with_reducible assumption) | assumption)))); (try (try simp only [Int.reduceToNat, Int.toNat_zero, Int.toNat_ofNat, Nat.reduceMul, Nat.zero_mul, Nat.zero_add] at hy19_ hz19_)); (try (try rw [show ((0 : Int)).toNat = 0 from rfl] at hy19_)); (try (try rw [show ((0 : Int)).toNat = 0 from rfl] at hz19_)); (try (have HP19 := Kd.R_putg HO277.out (0 : Int) ((x10_1) % 256))))); refine store_event (t := 5) (p := 40) (v := ?vo_w20) (w1 := (w17.setCell ⟨go14, (0 : Int).toNat, none⟩ (.int .u8 ((x10_1) % 256)))) ?hg ?ho ?hn ?hr ?_; (case ho => rfl); (case hg => rfl); (case hn => rfl); (case hr => first | (go_simp; done) | (go_simp; rfl)); intro w20 hw; have hg : w17.grownBy w20 (some go14) := (by rw [hw]; exact HP19.2); have hp_ : Kd.R (Kd.int .u8) 5 w20 w.heap.size (fun k_ => some k_ ≠ (u8 : Value).ownBlock) (.slice (some ⟨go14, 0, none⟩) y275.length co14) y278 := (by rw [hw, Ny278.out]; exact HP19.1); clear HP19; have n0_ := Aside0.mk (Kd.R_after (v := (.slice (some ⟨go14, 0, none⟩) y275.length co14)) (v1 := (.slice (some ⟨go14, 0, none⟩) y275.length co14)) (ok := (fun _ => True)) (by (with_reducible repeat (first | apply Kd.R_alloc | apply Kd.R_drewN | apply Kd.R_drew)); exact HO_8.out) hg (.inl rfl)); have n1_ := Aside0.mk (hp_); have n2_ := Aside0.mk ((by rw [hw]; exact below_set (HB.out) GB14.out : Below w.heap.size w w20)); clear HO_8; clear HO277; clear HB; have HO_8 := n0_; have HO277 := n1_; have HB := n2_; clear n0_ n1_ n2_; clear hg hw hp_) | (go_at_call 15; refine calls_of_args (args' := #[.agg #[.int .u16 (IntKind.u16.wrap (a0 + (IntKind.u16.wrap (x10_1)))), .int .u8 a1, .slice (some ⟨go14, 0, none⟩) y278.length co14]]) (by first | (rw [show y278.length = y275.length from (Kd.R_reads' HO277.out).1.symm] <;> rfl) | rfl) ?_; (with_reducible refine (mbap_Put.calls (IntKind.u16.wrap (a0 + (IntKind.u16.wrap (x10_1)))) a1 _ _ y278 t279 _ ?side1 ?side2 A15.out).mono ?_); (case side1 => repeat (first | exact (Kd.R_reads' HO277.out).2.2 | (with_reducible refine Kd.C_alloc ?_ _) | (with_reducible refine Kd.C_drewN ?_ _) | (with_reducible refine Kd.C_drew ?_))); (case side2 => rw [show y278.length = y275.length from (Kd.R_reads' HO277.out).1.symm]; exact (Kd.R_reads' HO277.out).2.1); rintro e w21 ⟨v280, rfl, ho0, hb⟩; have n0_ := Aside0.mk (Kd.R_elder' (by (with_reducible repeat (first | apply Kd.R_alloc | apply Kd.R_drewN | apply Kd.R_drew)); exact HO_8.out) (Kd.R_base ho0) hb); have n1_ := Aside0.mk (Kd.R_elder' (by (with_reducible repeat (first | apply Kd.R_alloc | apply Kd.R_drewN | apply Kd.R_drew)); exact HO277.out) (Kd.R_base ho0) hb); have n2_ := Aside0.mk (Kd.R_lower (Kd.R_new' (Kd.R_new' ho0 (Kd.R_lt (by (with_reducible repeat (first | apply Kd.R_alloc | apply Kd.R_drewN | apply Kd.R_drew)); exact HO_8.out))) (Kd.R_lt (by (with_reducible repeat (first | apply Kd.R_alloc | apply Kd.R_drewN | apply Kd.R_drew)); exact HO277.out))) (below_size (by repeat (first | (with_reducible first | exact HB.out | apply below_alloc | apply pw_below_drewN | apply below_drew1) | exact HB.out)))); have n3_ := Aside0.mk (below_step (by repeat (first | (with_reducible first | exact HB.out | apply below_alloc | apply pw_below_drewN | apply below_drew1) | exact HB.out)) hb); clear HO_8; clear HO277; clear HB; have HO_8 := n0_; have HO277 := n1_; have HO281 := n2_; have HB := n3_; clear n0_ n1_ n2_ n3_; (try clear hb); (try clear hb2); (try clear hgn); (try clear hk); (try clear hi); (try clear ho0); obtain ⟨Ao23, co23, eo23⟩ := Kd.R_slice HO281.out; subst eo23) | ((with_reducible refine gate_builtin (b := .append) (xs := #[.tmp 41, .tmp 49]) rfl ?_); (try (refine gate_guard (by rfl) ?_; dsimp only)); at_builtin; refine Kd.R_append_rows (Kd.int .u8) (w0 := w) w.heap.size rfl (.tmp 41) (.tmp 49) 22 5 (.int .u8 0) 1 rfl Try.underlying22 info5 rfl (by decide) (by omega) u8 x8_1 t279 _ _ _ (fun k_ => some k_ ≠ (.slice (some ⟨go14, 0, none⟩) y275.length co14 : Value).ownBlock ∧ some k_ ≠ (.slice Ao23 t279.length co23 : Value).ownBlock) (fun _ => False) rfl rfl ?aO ?aR (fun _ _ h => h) (fun _ h => h.elim) ?aF ?aB ?aS ?aL ?_; (case aR => repeat (first | exact (Kd.R_reads' HO281.out).2.2 | (with_reducible refine Kd.C_alloc ?_ _) | (with_reducible refine Kd.C_drewN ?_ _) | (with_reducible refine Kd.C_drew ?_))); (case aB => exact (by repeat (first | (with_reducible first | exact HB.out | apply below_alloc | apply pw_below_drewN | apply below_drew1) | exact HB.out))); (case aF => exact (fun k_ hk => ⟨Kd.fresh' (Kd.R_lt (by (with_reducible repeat (first | apply Kd.R_alloc | apply Kd.R_drewN | apply Kd.R_drew)); exact HO277.out)) k_ hk, Kd.fresh' (Kd.R_lt (by (with_reducible repeat (first | apply Kd.R_alloc | apply Kd.R_drewN | apply Kd.R_drew)); exact HO281.out)) k_ hk⟩)); (case aO => exact (by (with_reducible repeat (first | apply Kd.R_alloc | apply Kd.R_drewN | apply Kd.R_drew)); exact Kd.R_mono HO_8.out (fun _ hk => ⟨hk.1.2, hk.2⟩))); (case aS => exact (below_size (by repeat (first | (with_reducible first | exact HB.out | apply below_alloc | apply pw_below_drewN | apply below_drew1) | exact HB.out)))); (case aL => have := LMc16.out; omega); intro v283 w22 ho hb hg hat; rw [← Ny282.out] at ho; have n0_ := Aside0.mk (Kd.R_after (ok := (fun k_ => some k_ ≠ (.slice Ao23 t279.length co23 : Value).ownBlock)) (by (with_reducible repeat (first | apply Kd.R_alloc | apply Kd.R_drewN | apply Kd.R_drew)); exact Kd.R_mono HO277.out (fun _ hk => ⟨hk.2, hk.1⟩)) hg hat); have n1_ := Aside0.mk (Kd.R_after (ok := (fun k_ => some k_ ≠ (.slice (some ⟨go14, 0, none⟩) y275.length co14 : Value).ownBlock)) (by (with_reducible repeat (first | apply Kd.R_alloc | apply Kd.R_drewN | apply Kd.R_drew)); exact Kd.R_mono HO281.out (fun _ hk => ⟨hk.2, hk.1.2⟩)) hg hat); have n2_ := Aside0.mk (hb); have n3_ := Aside0.mk (ho); clear HO277; clear HO281; clear HB; clear HO_8; have HO277 := n0_; have HO281 := n1_; have HB := n2_; have HO284 := n3_; clear n0_ n1_ n2_ n3_; clear ho hb hg hat)); try go_wp2_with (first | ((with_reducible refine gate_dst (N := 36) rfl ?_); (try (refine gate_guard (by rfl) ?_; dsimp only)); refine Kd.R_make (Kd.int .u8) _ 5 rfl (N := 36) rfl 22 _ _ rfl ji10 rfl rfl Try.underlying22 (.int .u8 0) 1 info5 rfl (by decide) (by omega) 0 (ok := fun _ => True) (okp := fun _ => True) rfl (fun _ hk => hk) trivial (of_decide_eq_true (by first | (with_reducible assumption) | assumption)) (Nat.le_trans (Nat.mul_le_mul_right _ (of_decide_eq_true (by first | (with_reducible assumption) | assumption) : ji10.toNat ≤ 281474976710656)) (by omega)) (Below.refl _ _) (Nat.le_refl _) ?_; intro v276 w17 ho18 hb hg_ hnew_; clear hg_ hnew_; (first | rw [← Ny275.out] at ho18 | (simp only [Int.reduceToNat] at ho18; rw [← Ny275.out] at ho18)); have n0_ := Aside0.mk (Kd.R_elder' (by (with_reducible repeat (first | apply Kd.R_alloc | apply Kd.R_drewN | apply Kd.R_drew)); exact HO_8.out) (Kd.R_base ho18) hb); have n1_ := Aside0.mk (Kd.R_lower (Kd.R_new' ho18 (Kd.R_lt (by (with_reducible repeat (first | apply Kd.R_alloc | apply Kd.R_drewN | apply Kd.R_drew)); exact HO_8.out))) (below_size (by repeat (first | (with_reducible first | exact HB.out | apply below_alloc | apply pw_below_drewN | apply below_drew1) | exact HB.out)))); have n2_ := Aside0.mk (below_step (by repeat (first | (with_reducible first | exact HB.out | apply below_alloc | apply pw_below_drewN | apply below_drew1) | exact HB.out)) hb); clear HO_8; clear HB; have HO_8 := n0_; have HO277 := n1_; have HB := n2_; clear n0_ n1_ n2_; clear hb ho18; have p14 : 0 ≤ (0 : Int) := (by omega); have q14 : (0 : Int) < ((y275.length : Int) : Int) := of_decide_eq_true (by first | (with_reducible assumption) | assumption); have qi14 : (0 < y275.length) = True := eq_true (by omega); obtain ⟨go14, co14, eo14, gb14, gl14, cl14, HG14⟩ := Kd.R_form HO277.out (by omega); (first | cases eo14 | (injection eo14 with ea_ en_ ec_; (first | subst ea_ | (injection ea_ with ea_; subst ea_)); subst ec_; clear en_)); have GB14 := Aside0.mk gb14; have GG14 := Aside0.mk HG14; clear gb14 gl14 HG14; obtain ⟨hx14_0, hf14_0⟩ := Kd.R_celln 0 HO277.out (0 : Int) p14 q14; (try rw [show ((0 : Int)).toNat = 0 from rfl] at hx14_0); (try simp only [Nat.reduceMul, Nat.zero_mul, Nat.zero_add, Nat.reduceAdd] at hx14_0); (try rw [show ((0 : Int)).toNat = 0 from rfl] at hf14_0); (try simp only [Nat.reduceMul, Nat.zero_mul, Nat.zero_add, Nat.reduceAdd] at hf14_0); replace p14 := eq_true p14; replace q14 := eq_true q14; have n_ := Aside0.mk (Kd.R_mono (ok' := (fun k_ => some k_ ≠ (u8 : Value).ownBlock)) HO277.out (fun k_ hk => hk.2)); clear HO277; have HO277 := n_; clear n_; obtain ⟨hy19_, hz19_⟩ := Kd.R_celln 0 HO277.out (0 : Int) (by omega) (of_decide_eq_true (by first | (with_reducible assumption) | assumption)); (try simp only [Int.reduceToNat, Int.toNat_zero, Int.toNat_ofNat, Nat.reduceMul, Nat.zero_mul, Nat.zero_add] at hy19_ hz19_); (try rw [show ((0 : Int)).toNat = 0 from rfl] at hy19_); (try rw [show ((0 : Int)).toNat = 0 from rfl] at hz19_); have HP19 := Kd.R_putg HO277.out (0 : Int) ((x10_1) % 256)) | ((with_reducible refine gate_store (t := 5) (p := 40) rfl ?_); (try (rw [drewN_self w17]; generalize hq_ : World.drewN w17 _ = w17; have n0_ := Aside0.mk (Kd.R_at hq_ HO_8.out); have n1_ := Aside0.mk (Kd.R_at hq_ HO277.out); have n2_ := Aside0.mk (below_at hq_ HB.out); clear hq_ HO_8 HO277 HB; have HO_8 := n0_; have HO277 := n1_; have HB := n2_; clear n0_ n1_ n2_; (try (have n_ := Aside0.mk (Kd.R_mono (ok' := (fun k_ => some k_ ≠ (u8 : Value).ownBlock)) HO277.out (fun k_ hk => hk.2)); clear HO277; have HO277 := n_; clear n_)); (try (obtain ⟨hy19_, hz19_⟩ := Kd.R_celln 0 HO277.out (0 : Int) (by omega) (of_decide_eq_true (by first | (with_reducible assumption) | assumption)))); (try (try simp only [Int.reduceToNat, Int.toNat_zero, Int.toNat_ofNat, Nat.reduceMul, Nat.zero_mul, Nat.zero_add] at hy19_ hz19_)); (try (try rw [show ((0 : Int)).toNat = 0 from rfl] at hy19_)); (try (try rw [show ((0 : Int)).toNat = 0 from rfl] at hz19_)); (try (have HP19 := Kd.R_putg HO277.out (0 : Int) ((x10_1) % 256))))); refine store_event (t := 5) (p := 40) (v := ?vo_w20) (w1 := (w17.setCell ⟨go14, (0 : Int).toNat, none⟩ (.int .u8 ((x10_1) % 256)))) ?hg ?ho ?hn ?hr ?_; (case ho => rfl); (case hg => rfl); (case hn => rfl); (case hr => first | (go_simp; done) | (go_simp; rfl)); intro w20 hw; have hg : w17.grownBy w20 (some go14) := (by rw [hw]; exact HP19.2); have hp_ : Kd.R (Kd.int .u8) 5 w20 w.heap.size (fun k_ => some k_ ≠ (u8 : Value).ownBlock) (.slice (some ⟨go14, 0, none⟩) y275.length co14) y278 := (by rw [hw, Ny278.out]; exact HP19.1); clear HP19; have n0_ := Aside0.mk (Kd.R_after (v := (.slice (some ⟨go14, 0, none⟩) y275.length co14)) (v1 := (.slice (some ⟨go14, 0, none⟩) y275.length co14)) (ok := (fun _ => True)) (by (with_reducible repeat (first | apply Kd.R_alloc | apply Kd.R_drewN | apply Kd.R_drew)); exact HO_8.out) hg (.inl rfl)); have n1_ := Aside0.mk (hp_); have n2_ := Aside0.mk ((by rw [hw]; exact below_set (HB.out) GB14.out : Below w.heap.size w w20)); clear HO_8; clear HO277; clear HB; have HO_8 := n0_; have HO277 := n1_; have HB := n2_; clear n0_ n1_ n2_; clear hg hw hp_) | (go_at_call 15; refine calls_of_args (args' := #[.agg #[.int .u16 (IntKind.u16.wrap (a0 + (IntKind.u16.wrap (x10_1)))), .int .u8 a1, .slice (some ⟨go14, 0, none⟩) y278.length co14]]) (by first | (rw [show y278.length = y275.length from (Kd.R_reads' HO277.out).1.symm] <;> rfl) | rfl) ?_; (with_reducible refine (mbap_Put.calls (IntKind.u16.wrap (a0 + (IntKind.u16.wrap (x10_1)))) a1 _ _ y278 t279 _ ?side1 ?side2 A15.out).mono ?_); (case side1 => repeat (first | exact (Kd.R_reads' HO277.out).2.2 | (with_reducible refine Kd.C_alloc ?_ _) | (with_reducible refine Kd.C_drewN ?_ _) | (with_reducible refine Kd.C_drew ?_))); (case side2 => rw [show y278.length = y275.length from (Kd.R_reads' HO277.out).1.symm]; exact (Kd.R_reads' HO277.out).2.1); rintro e w21 ⟨v280, rfl, ho0, hb⟩; have n0_ := Aside0.mk (Kd.R_elder' (by (with_reducible repeat (first | apply Kd.R_alloc | apply Kd.R_drewN | apply Kd.R_drew)); exact HO_8.out) (Kd.R_base ho0) hb); have n1_ := Aside0.mk (Kd.R_elder' (by (with_reducible repeat (first | apply Kd.R_alloc | apply Kd.R_drewN | apply Kd.R_drew)); exact HO277.out) (Kd.R_base ho0) hb); have n2_ := Aside0.mk (Kd.R_lower (Kd.R_new' (Kd.R_new' ho0 (Kd.R_lt (by (with_reducible repeat (first | apply Kd.R_alloc | apply Kd.R_drewN | apply Kd.R_drew)); exact HO_8.out))) (Kd.R_lt (by (with_reducible repeat (first | apply Kd.R_alloc | apply Kd.R_drewN | apply Kd.R_drew)); exact HO277.out))) (below_size (by repeat (first | (with_reducible first | exact HB.out | apply below_alloc | apply pw_below_drewN | apply below_drew1) | exact HB.out)))); have n3_ := Aside0.mk (below_step (by repeat (first | (with_reducible first | exact HB.out | apply below_alloc | apply pw_below_drewN | apply below_drew1) | exact HB.out)) hb); clear HO_8; clear HO277; clear HB; have HO_8 := n0_; have HO277 := n1_; have HO281 := n2_; have HB := n3_; clear n0_ n1_ n2_ n3_; (try clear hb); (try clear hb2); (try clear hgn); (try clear hk); (try clear hi); (try clear ho0); obtain ⟨Ao23, co23, eo23⟩ := Kd.R_slice HO281.out; subst eo23) | ((with_reducible refine gate_builtin (b := .append) (xs := #[.tmp 41, .tmp 49]) rfl ?_); (try (refine gate_guard (by rfl) ?_; dsimp only)); at_builtin; refine Kd.R_append_rows (Kd.int .u8) (w0 := w) w.heap.size rfl (.tmp 41) (.tmp 49) 22 5 (.int .u8 0) 1 rfl Try.underlying22 info5 rfl (by decide) (by omega) u8 x8_1 t279 _ _ _ (fun k_ => some k_ ≠ (.slice (some ⟨go14, 0, none⟩) y275.length co14 : Value).ownBlock ∧ some k_ ≠ (.slice Ao23 t279.length co23 : Value).ownBlock) (fun _ => False) rfl rfl ?aO ?aR (fun _ _ h => h) (fun _ h => h.elim) ?aF ?aB ?aS ?aL ?_; (case aR => repeat (first | exact (Kd.R_reads' HO281.out).2.2 | (with_reducible refine Kd.C_alloc ?_ _) | (with_reducible refine Kd.C_drewN ?_ _) | (with_reducible refine Kd.C_drew ?_))); (case aB => exact (by repeat (first | (with_reducible first | exact HB.out | apply below_alloc | apply pw_below_drewN | apply below_drew1) | exact HB.out))); (case aF => exact (fun k_ hk => ⟨Kd.fresh' (Kd.R_lt (by (with_reducible repeat (first | apply Kd.R_alloc | apply Kd.R_drewN | apply Kd.R_drew)); exact HO277.out)) k_ hk, Kd.fresh' (Kd.R_lt (by (with_reducible repeat (first | apply Kd.R_alloc | apply Kd.R_drewN | apply Kd.R_drew)); exact HO281.out)) k_ hk⟩)); (case aO => exact (by (with_reducible repeat (first | apply Kd.R_alloc | apply Kd.R_drewN | apply Kd.R_drew)); exact Kd.R_mono HO_8.out (fun _ hk => ⟨hk.1.2, hk.2⟩))); (case aS => exact (below_size (by repeat (first | (with_reducible first | exact HB.out | apply below_alloc | apply pw_below_drewN | apply below_drew1) | exact HB.out)))); (case aL => have := LMc16.out; omega); intro v283 w22 ho hb hg hat; rw [← Ny282.out] at ho; have n0_ := Aside0.mk (Kd.R_after (ok := (fun k_ => some k_ ≠ (.slice Ao23 t279.length co23 : Value).ownBlock)) (by (with_reducible repeat (first | apply Kd.R_alloc | apply Kd.R_drewN | apply Kd.R_drew)); exact Kd.R_mono HO277.out (fun _ hk => ⟨hk.2, hk.1⟩)) hg hat); have n1_ := Aside0.mk (Kd.R_after (ok := (fun k_ => some k_ ≠ (.slice (some ⟨go14, 0, none⟩) y275.length co14 : Value).ownBlock)) (by (with_reducible repeat (first | apply Kd.R_alloc | apply Kd.R_drewN | apply Kd.R_drew)); exact Kd.R_mono HO281.out (fun _ hk => ⟨hk.2, hk.1.2⟩)) hg hat); have n2_ := Aside0.mk (hb); have n3_ := Aside0.mk (ho); clear HO277; clear HO281; clear HB; clear HO_8; have HO277 := n0_; have HO281 := n1_; have HB := n2_; have HO284 := n3_; clear n0_ n1_ n2_ n3_; clear ho hb hg hat)))
                    go_roundg k1
                    case measure => have := HK1.out; omega
                    case rel => exact ⟨(y282), (wrap64 ((wrap64 (x9_1 + (ji10))) + 7)), (wrap64 (x10_1 + 1)), (by first | rfl | (simp; done) | (simp only [← hji10] <;> (first | rfl | simp)) | (simp [*]; done)), (by first | rfl | (simp; done) | (simp [*]; done)), H', ⟨by have := HK1.out; omega⟩, ⟨by (with_reducible repeat (first | apply Kd.R_alloc | apply Kd.R_drewN | apply Kd.R_drew)); exact Kd.R_mono HO284.out (fun _ hk => trivial)⟩, ⟨by repeat (first | (with_reducible first | exact HB.out | apply below_alloc | apply pw_below_drewN | apply below_drew1) | exact HB.out)⟩⟩
                  · rw [if_neg c16] at H
                    exact absurd H (by simp)
                · rw [if_neg c13] at H
                  exact absurd H (by simp)
              · rw [if_neg c12] at H
                exact absurd H (by simp)
            · rw [if_neg c11] at H
              exact absurd H (by simp)
          · rw [if_neg c9] at H
            exact absurd H (by simp)
        · rw [if_neg c8] at H
          have c8b0 : decide (x10_1 < (l2.length : Int)) = false := decide_eq_false c8
          clear c8
          replace H := Option.bind_eq_some_iff.mp H
          obtain ⟨⟨t285, t286, t287⟩, A240, H⟩ := H
          replace H : (if (x8_1.length : Int) = x9_1 then (if t286 = x9_1 then (if t287 = 0 then (watchkeeperlaw03_MbapMany.j1 k1 a0 a1 l2 t273 t285 ((t285.length : Int) != (l2.length : Int))) else (watchkeeperlaw03_MbapMany.j1 k1 a0 a1 l2 t273 t285 true)) else (watchkeeperlaw03_MbapMany.j1 k1 a0 a1 l2 t273 t285 true)) else (watchkeeperlaw03_MbapMany.j1 k1 a0 a1 l2 t273 t285 true)) = some r := H
          have A24 := Aside0.mk A240
          clear A240
          have HC25 := Aside0.mk H
          clear H
          obtain ⟨Ao26, co26, eo26⟩ := Kd.R_slice HO_8.out
          subst eo26
          go_upto_region 15 with (first | (go_at_call 13; (with_reducible refine (mbap_Cut.calls _ _ x8_1 t285 t286 t287 _ ?side1 ?side2 A24.out).mono ?_); (case side1 => repeat (first | exact (Kd.R_reads' HO_8.out).2.2 | (with_reducible refine Kd.C_alloc ?_ _) | (with_reducible refine Kd.C_drewN ?_ _) | (with_reducible refine Kd.C_drew ?_))); (case side2 => exact (Kd.R_reads' HO_8.out).2.1); rintro e w27 ⟨v288, rfl, ho0, hb⟩; have n0_ := Aside0.mk (Kd.R_below (by (with_reducible repeat (first | apply Kd.R_alloc | apply Kd.R_drewN | apply Kd.R_drew)); exact HO_8.out) hb); have n1_ := Aside0.mk (Kd.S_lower (Kd.S_new' ho0 (Kd.R_lt (by (with_reducible repeat (first | apply Kd.R_alloc | apply Kd.R_drewN | apply Kd.R_drew)); exact HO_8.out))) (below_size (by repeat (first | (with_reducible first | exact HB.out | apply below_alloc | apply pw_below_drewN | apply below_drew1) | exact HB.out)))); have n2_ := Aside0.mk (below_step (by repeat (first | (with_reducible first | exact HB.out | apply below_alloc | apply pw_below_drewN | apply below_drew1) | exact HB.out)) hb); clear HO_8; clear HB; have HO_8 := n0_; have HO289 := n1_; have HB := n2_; clear n0_ n1_ n2_; (try clear hb); (try clear hb2); (try clear hgn); (try clear hk); (try clear hi); (try clear ho0)))
          repeat (go_quiet (first | (go_at_call 13; (with_reducible refine (mbap_Cut.calls _ _ x8_1 t285 t286 t287 _ ?side1 ?side2 A24.out).mono ?_); (case side1 => repeat (first | exact (Kd.R_reads' HO_8.out).2.2 | (with_reducible refine Kd.C_alloc ?_ _) | (with_reducible refine Kd.C_drewN ?_ _) | (with_reducible refine Kd.C_drew ?_))); (case side2 => exact (Kd.R_reads' HO_8.out).2.1); rintro e w27 ⟨v288, rfl, ho0, hb⟩; have n0_ := Aside0.mk (Kd.R_below (by (with_reducible repeat (first | apply Kd.R_alloc | apply Kd.R_drewN | apply Kd.R_drew)); exact HO_8.out) hb); have n1_ := Aside0.mk (Kd.S_lower (Kd.S_new' ho0 (Kd.R_lt (by (with_reducible repeat (first | apply Kd.R_alloc | apply Kd.R_drewN | apply Kd.R_drew)); exact HO_8.out))) (below_size (by repeat (first | (with_reducible first | exact HB.out | apply below_alloc | apply pw_below_drewN | apply below_drew1) | exact HB.out)))); have n2_ := Aside0.mk (below_step (by repeat (first | (with_reducible first | exact HB.out | apply below_alloc | apply pw_below_drewN | apply below_drew1) | exact HB.out)) hb); clear HO_8; clear HB; have HO_8 := n0_; have HO289 := n1_; have HB := n2_; clear n0_ n1_ n2_; (try clear hb); (try clear hb2); (try clear hgn); (try clear hk); (try clear hi); (try clear ho0))); go_upto_region 15 with (first | (go_at_call 13; (with_reducible refine (mbap_Cut.calls _ _ x8_1 t285 t286 t287 _ ?side1 ?side2 A24.out).mono ?_); (case side1 => repeat (first | exact (Kd.R_reads' HO_8.out).2.2 | (with_reducible refine Kd.C_alloc ?_ _) | (with_reducible refine Kd.C_drewN ?_ _) | (with_reducible refine Kd.C_drew ?_))); (case side2 => exact (Kd.R_reads' HO_8.out).2.1); rintro e w27 ⟨v288, rfl, ho0, hb⟩; have n0_ := Aside0.mk (Kd.R_below (by (with_reducible repeat (first | apply Kd.R_alloc | apply Kd.R_drewN | apply Kd.R_drew)); exact HO_8.out) hb); have n1_ := Aside0.mk (Kd.S_lower (Kd.S_new' ho0 (Kd.R_lt (by (with_reducible repeat (first | apply Kd.R_alloc | apply Kd.R_drewN | apply Kd.R_drew)); exact HO_8.out))) (below_size (by repeat (first | (with_reducible first | exact HB.out | apply below_alloc | apply pw_below_drewN | apply below_drew1) | exact HB.out)))); have n2_ := Aside0.mk (below_step (by repeat (first | (with_reducible first | exact HB.out | apply below_alloc | apply pw_below_drewN | apply below_drew1) | exact HB.out)) hb); clear HO_8; clear HB; have HO_8 := n0_; have HO289 := n1_; have HB := n2_; clear n0_ n1_ n2_; (try clear hb); (try clear hb2); (try clear hgn); (try clear hk); (try clear hi); (try clear ho0))))
          (try simp only [Act.put, List.setIfInBounds_toArray, List.set_cons_zero, List.set_cons_succ])
          go_cut [80] (fun v80 wc => ∃ (kq : Nat) (x80_24 : Bool), v80 = .bool x80_24 ∧ Aside0 (watchkeeperlaw03_MbapMany.j1 kq a0 a1 l2 t273 t285 x80_24 = some r) ∧ Aside0 (kq ≤ k1) ∧ Aside0 (Kd.S k26 26 wc w.heap.size (fun _ => True) v288 t285) ∧ Aside0 (Below w.heap.size w wc))
          case first =>
            have H := HC25.out
            clear HC25
            by_cases c28 : (x8_1.length : Int) = x9_1
            · rw [if_pos c28] at H
              have c28b0 : ((x8_1.length : Int) == x9_1) = true := beq_iff_eq.mpr c28
              have c28b1 : ((x8_1.length : Int) != x9_1) = false := bne_eq_false_iff_eq.mpr c28
              clear c28
              (first | rw [c28b0] | (simp only [i64_w, i32_w]; rw [c28b0]) | skip)
              by_cases c29 : t286 = x9_1
              · rw [if_pos c29] at H
                have c29b0 : (t286 == x9_1) = true := beq_iff_eq.mpr c29
                have c29b1 : (t286 != x9_1) = false := bne_eq_false_iff_eq.mpr c29
                clear c29
                by_cases c30 : t287 = 0
                · rw [if_pos c30] at H
                  have c30b0 : (t287 == 0) = true := beq_iff_eq.mpr c30
                  have c30b1 : (t287 != 0) = false := bne_eq_false_iff_eq.mpr c30
                  clear c30
                  have H' := Aside0.mk H
                  clear H
                  obtain ⟨Ao31, co31, eo31⟩ := Kd.S_slice HO289.out
                  subst eo31
                  go_wp2
                  repeat (go_quiet (fail); try go_wp2)
                  go_meet
                  case rel => exact ⟨_, (((t285.length : Int) != (l2.length : Int))), (by first | rfl | (simp; done) | (simp [*]; done)), H', ⟨by have := HK1.out; first | omega | exact Nat.le_refl _⟩, ⟨by (with_reducible repeat (first | apply Kd.S_alloc | apply Kd.S_drewN | apply Kd.S_drew)); exact Kd.S_mono HO289.out (fun _ hk => trivial)⟩, ⟨by repeat (first | (with_reducible first | exact HB.out | apply below_alloc | apply pw_below_drewN | apply below_drew1) | exact HB.out)⟩⟩
                · rw [if_neg c30] at H
                  have c30b0 : (t287 == 0) = false := beq_eq_false_iff_ne.mpr c30
                  have c30b1 : (t287 != 0) = true := bne_iff_ne.mpr c30
                  have H' := Aside0.mk H
                  clear H
                  go_wp2
                  repeat (go_quiet (fail); try go_wp2)
                  go_meet
                  case rel => exact ⟨_, (true), (by first | rfl | (simp; done) | (simp [*]; done)), H', ⟨by have := HK1.out; first | omega | exact Nat.le_refl _⟩, ⟨by (with_reducible repeat (first | apply Kd.S_alloc | apply Kd.S_drewN | apply Kd.S_drew)); exact Kd.S_mono HO289.out (fun _ hk => trivial)⟩, ⟨by repeat (first | (with_reducible first | exact HB.out | apply below_alloc | apply pw_below_drewN | apply below_drew1) | exact HB.out)⟩⟩
              · rw [if_neg c29] at H
                have c29b0 : (t286 == x9_1) = false := beq_eq_false_iff_ne.mpr c29
                have c29b1 : (t286 != x9_1) = true := bne_iff_ne.mpr c29
                have H' := Aside0.mk H
                clear H
                go_wp2
                repeat (go_quiet (fail); try go_wp2)
                go_meet
                case rel => exact ⟨_, (true), (by first | rfl | (simp; done) | (simp [*]; done)), H', ⟨by have := HK1.out; first | omega | exact Nat.le_refl _⟩, ⟨by (with_reducible repeat (first | apply Kd.S_alloc | apply Kd.S_drewN | apply Kd.S_drew)); exact Kd.S_mono HO289.out (fun _ hk => trivial)⟩, ⟨by repeat (first | (with_reducible first | exact HB.out | apply below_alloc | apply pw_below_drewN | apply below_drew1) | exact HB.out)⟩⟩
            · rw [if_neg c28] at H
              have c28b0 : ((x8_1.length : Int) == x9_1) = false := beq_eq_false_iff_ne.mpr c28
              have c28b1 : ((x8_1.length : Int) != x9_1) = true := bne_iff_ne.mpr c28
              (first | rw [c28b0] | (simp only [i64_w, i32_w]; rw [c28b0]) | skip)
              have H' := Aside0.mk H
              clear H
              go_wp2
              repeat (go_quiet (fail); try go_wp2)
              go_meet
              case rel => exact ⟨_, (true), (by first | rfl | (simp; done) | (simp [*]; done)), H', ⟨by have := HK1.out; first | omega | exact Nat.le_refl _⟩, ⟨by (with_reducible repeat (first | apply Kd.S_alloc | apply Kd.S_drewN | apply Kd.S_drew)); exact Kd.S_mono HO289.out (fun _ hk => trivial)⟩, ⟨by repeat (first | (with_reducible first | exact HB.out | apply below_alloc | apply pw_below_drewN | apply below_drew1) | exact HB.out)⟩⟩
          case rest =>
            clear HC25
            try clear c1
            try clear p1
            try clear q1
            try clear hx1
            try clear qi1
            try clear c2
            try clear p2
            try clear q2
            try clear hx2
            try clear c3
            try clear c5
            try clear c5b0
            try clear c5b1
            try clear p6
            try clear c8
            try clear c8b0
            try clear c9
            try clear c9b0
            try clear c11
            try clear c11b0
            try clear c11b1
            try clear c12
            try clear c12b0
            try clear c12b1
            try clear c13
            try clear c13b0
            try clear c13b1
            try clear p14
            try clear q14
            try clear hx14
            try clear qi14
            try clear hf14
            try clear c16
            try clear p27
            try clear q27
            try clear hx27
            try clear c28
            try clear c28b0
            try clear c28b1
            try clear c29
            try clear c29b0
            try clear c29b1
            try clear c30
            try clear c30b0
            try clear c30b1
            try clear hx14_0
            try clear hx274_0
            try clear p14
            try clear p2
            try clear p274
            try clear q14
            try clear q274
            obtain ⟨kq, x80_24, rfl, HA, HJ24, HO_13, HB⟩ := hcut
            cases kq with
            | zero => exact absurd HA.out (by simp [watchkeeperlaw03_MbapMany.j1])
            | succ kj24 =>
              have H := HA.out
              clear HA
              simp only [watchkeeperlaw03_MbapMany.j1] at H
              by_cases c32 : x80_24 = true
              · subst c32
                have H1 : (some false) = some r := by rw [if_pos rfl] at H; exact H
                clear H
                have H := H1
                clear H1
                obtain rfl := Option.some.inj H
                go_wp2
                repeat (go_quiet (fail); try go_wp2)
                go_ret
                exact ⟨by first | rfl | (simp [errW_none, errW_some] <;> rfl) | (simp [*, errW_none, errW_some] <;> rfl), by repeat (first | (with_reducible first | exact HB.out | apply below_alloc | apply pw_below_drewN | apply below_drew1) | exact HB.out)⟩
              · replace c32 := Bool.eq_false_iff.mpr c32
                subst c32
                have H1 : (watchkeeperlaw03_MbapMany.l1 kj24 a0 a1 l2 t273 t285 0) = some r := by rw [if_neg (show ¬ (false = true) by decide)] at H; exact H
                clear H
                have H := H1
                clear H1
                have H' := Aside0.mk H
                clear H
                go_wp2
                repeat (go_quiet (fail); try go_wp2)
                go_loopg [16] kj24 (fun kq v16 w' => ∃ (x16_3 : Int), v16 = .int .i64 x16_3 ∧ Aside0 (watchkeeperlaw03_MbapMany.l1 kq a0 a1 l2 t273 t285 x16_3 = some r) ∧ Aside0 (kq ≤ kj24) ∧ Aside0 (Kd.S k26 26 w' w.heap.size (fun _ => True) v288 t285) ∧ Aside0 (Below w.heap.size w w'))
                case atStart => exact ⟨(0), (by first | rfl | (simp; done) | (simp [*]; done)), H', ⟨Nat.le_refl _⟩, ⟨by (with_reducible repeat (first | apply Kd.S_alloc | apply Kd.S_drewN | apply Kd.S_drew)); exact HO_13.out⟩, ⟨by repeat (first | (with_reducible first | exact HB.out | apply below_alloc | apply pw_below_drewN | apply below_drew1) | exact HB.out)⟩⟩
                case round =>
                  clear H'
                  try clear c1
                  try clear p1
                  try clear q1
                  try clear hx1
                  try clear qi1
                  try clear c2
                  try clear p2
                  try clear q2
                  try clear hx2
                  try clear c3
                  try clear c5
                  try clear c5b0
                  try clear c5b1
                  try clear p6
                  try clear c8
                  try clear c8b0
                  try clear c9
                  try clear c9b0
                  try clear c11
                  try clear c11b0
                  try clear c11b1
                  try clear c12
                  try clear c12b0
                  try clear c12b1
                  try clear c13
                  try clear c13b0
                  try clear c13b1
                  try clear p14
                  try clear q14
                  try clear hx14
                  try clear qi14
                  try clear hf14
                  try clear c16
                  try clear p27
                  try clear q27
                  try clear hx27
                  try clear c28
                  try clear c28b0
                  try clear c28b1
                  try clear c29
                  try clear c29b0
                  try clear c29b1
                  try clear c30
                  try clear c30b0
                  try clear c30b1
                  try clear c32
                  try clear hx14_0
                  try clear hx274_0
                  try clear p1
                  try clear p14
                  try clear p2
                  try clear p27
                  try clear p274
                  try clear p6
                  try clear q1
                  try clear q14
                  try clear q2
                  try clear q27
                  try clear q274
                  obtain ⟨x16_3, rfl, HA, HK3, HO_13, HB⟩ := hrel
                  cases gk with
                  | zero => exact absurd HA.out (by simp [watchkeeperlaw03_MbapMany.l1])
                  | succ k3 =>
                    have H := HA.out
                    clear HA
                    simp only [watchkeeperlaw03_MbapMany.l1] at H
                    by_cases c33 : x16_3 < (t285.length : Int)
                    · rw [if_pos c33] at H
                      have c33b0 : decide (x16_3 < (t285.length : Int)) = true := decide_eq_true c33
                      clear c33
                      by_cases c34 : 0 ≤ x16_3
                      · rw [if_pos c34] at H
                        have c34b0 : decide (0 ≤ x16_3) = true := decide_eq_true c34
                        clear c34
                        by_cases c35 : ((rd_T26 t285 x16_3).f0) = (IntKind.u16.wrap (a0 + (IntKind.u16.wrap (x16_3))))
                        · rw [if_pos c35] at H
                          have c35b0 : (((rd_T26 t285 x16_3).f0) == (IntKind.u16.wrap (a0 + (IntKind.u16.wrap (x16_3))))) = true := beq_iff_eq.mpr c35
                          have c35b1 : (((rd_T26 t285 x16_3).f0) != (IntKind.u16.wrap (a0 + (IntKind.u16.wrap (x16_3))))) = false := bne_eq_false_iff_eq.mpr c35
                          clear c35
                          by_cases c36 : ((rd_T26 t285 x16_3).f1) = a1
                          · rw [if_pos c36] at H
                            have c36b0 : (((rd_T26 t285 x16_3).f1) == a1) = true := beq_iff_eq.mpr c36
                            have c36b1 : (((rd_T26 t285 x16_3).f1) != a1) = false := bne_eq_false_iff_eq.mpr c36
                            clear c36
                            by_cases c37 : x16_3 < (l2.length : Int)
                            · rw [if_pos c37] at H
                              have c37b0 : decide (x16_3 < (l2.length : Int)) = true := decide_eq_true c37
                              clear c37
                              by_cases c38 : (((rd_T26 t285 x16_3).f2).length : Int) = (wrap64 (1 + (Int.tmod (wrap64 (rd l2 x16_3)) 253)))
                              · rw [if_pos c38] at H
                                have c38b0 : ((((rd_T26 t285 x16_3).f2).length : Int) == (wrap64 (1 + (Int.tmod (wrap64 (rd l2 x16_3)) 253)))) = true := beq_iff_eq.mpr c38
                                have c38b1 : ((((rd_T26 t285 x16_3).f2).length : Int) != (wrap64 (1 + (Int.tmod (wrap64 (rd l2 x16_3)) 253)))) = false := bne_eq_false_iff_eq.mpr c38
                                clear c38
                                by_cases c39 : 0 < (((rd_T26 t285 x16_3).f2).length : Int)
                                · rw [if_pos c39] at H
                                  have c39b0 : decide (0 < (((rd_T26 t285 x16_3).f2).length : Int)) = true := decide_eq_true c39
                                  have c39b1 : decide (0 < ((rd_T26 t285 x16_3).f2).length) = true := decide_eq_true (by omega)
                                  clear c39
                                  by_cases c40 : (rd ((rd_T26 t285 x16_3).f2) 0) = ((x16_3) % 256)
                                  · rw [if_pos c40] at H
                                    have c40b0 : ((rd ((rd_T26 t285 x16_3).f2) 0) == ((x16_3) % 256)) = true := beq_iff_eq.mpr c40
                                    have c40b1 : ((rd ((rd_T26 t285 x16_3).f2) 0) != ((x16_3) % 256)) = false := bne_eq_false_iff_eq.mpr c40
                                    clear c40
                                    have H' := Aside0.mk H
                                    clear H
                                    obtain ⟨Ao41, co41, eo41⟩ := Kd.S_slice HO_13.out
                                    subst eo41
                                    have p290 : 0 ≤ (x16_3 : Int) := of_decide_eq_true (by first | (with_reducible assumption) | assumption)
                                    have q290 : x16_3 < (t285.length : Int) := of_decide_eq_true (by first | (with_reducible assumption) | assumption)
                                    obtain ⟨ad290, A290_2, c290_2, e290, hx290_0, hx290_1, hx290_2, hl290_2, hi290_2⟩ := at_T26 (Kd.S_reads' HO_13.out).2.2 x16_3 p290 q290
                                    cases e290
                                    obtain ⟨ce290, hce290, hMe290, hcc290⟩ := Kd.S_get HO_13.out z26 x16_3 p290 (by first | exact q290 | exact of_decide_eq_true (by first | (with_reducible assumption) | assumption) | (have e_ := (Kd.S_reads' HO_13.out).1; omega))
                                    obtain ⟨ve290_2, rfl, ge290_2⟩ := k26_openM hMe290
                                    have hv290_2 := hcc290 2 _ rfl
                                    rw [add_field _ _ 2 (by omega)] at hv290_2
                                    replace hv290_2 := Option.some.inj (hv290_2.symm.trans hx290_2)
                                    rw [hv290_2] at ge290_2
                                    have HL290_2 := Aside0.mk (show Kd.R (Kd.int .u8) 5 _ _ _ _ ((rd_T26 t285 x16_3).f2) from ge290_2)
                                    clear hv290_2 ge290_2
                                    clear hcc290 hce290
                                    have HR290_2 := Aside0.mk hi290_2
                                    have HC290_2 := Aside0.mk hl290_2
                                    clear hi290_2 hl290_2
                                    replace p290 := eq_true p290
                                    replace q290 := eq_true q290
                                    have p291 : 0 ≤ (x16_3 : Int) := of_decide_eq_true (by first | (with_reducible assumption) | assumption)
                                    have q291 : x16_3 < (t285.length : Int) := of_decide_eq_true (by first | (with_reducible assumption) | assumption)
                                    obtain ⟨ad291, A291_2, c291_2, e291, hx291_0, hx291_1, hx291_2, hl291_2, hi291_2⟩ := at_T26 (Kd.S_reads' HO_13.out).2.2 x16_3 p291 q291
                                    obtain rfl : ad290 = ad291 := (by injection e291)
                                    obtain ⟨ce291, hce291, hMe291, hcc291⟩ := Kd.S_get HO_13.out z26 x16_3 p291 (by first | exact q291 | exact of_decide_eq_true (by first | (with_reducible assumption) | assumption) | (have e_ := (Kd.S_reads' HO_13.out).1; omega))
                                    obtain ⟨ve291_2, rfl, ge291_2⟩ := k26_openM hMe291
                                    have hv291_2 := hcc291 2 _ rfl
                                    rw [add_field _ _ 2 (by omega)] at hv291_2
                                    replace hv291_2 := Option.some.inj (hv291_2.symm.trans hx291_2)
                                    rw [hv291_2] at ge291_2
                                    have HL291_2 := Aside0.mk (show Kd.R (Kd.int .u8) 5 _ _ _ _ ((rd_T26 t285 x16_3).f2) from ge291_2)
                                    clear hv291_2 ge291_2
                                    clear hcc291 hce291
                                    have HR291_2 := Aside0.mk hi291_2
                                    have HC291_2 := Aside0.mk hl291_2
                                    clear hi291_2 hl291_2
                                    replace p291 := eq_true p291
                                    replace q291 := eq_true q291
                                    have ea_ := Option.some.inj (hx290_2.symm.trans hx291_2)
                                    injection ea_ with ea_ en_ ec_
                                    subst ea_
                                    subst ec_
                                    clear en_
                                    have p292 : 0 ≤ (x16_3 : Int) := of_decide_eq_true (by first | (with_reducible assumption) | assumption)
                                    have q292 : x16_3 < (t285.length : Int) := of_decide_eq_true (by first | (with_reducible assumption) | assumption)
                                    obtain ⟨ad292, A292_2, c292_2, e292, hx292_0, hx292_1, hx292_2, hl292_2, hi292_2⟩ := at_T26 (Kd.S_reads' HO_13.out).2.2 x16_3 p292 q292
                                    obtain rfl : ad290 = ad292 := (by injection e292)
                                    obtain ⟨ce292, hce292, hMe292, hcc292⟩ := Kd.S_get HO_13.out z26 x16_3 p292 (by first | exact q292 | exact of_decide_eq_true (by first | (with_reducible assumption) | assumption) | (have e_ := (Kd.S_reads' HO_13.out).1; omega))
                                    obtain ⟨ve292_2, rfl, ge292_2⟩ := k26_openM hMe292
                                    have hv292_2 := hcc292 2 _ rfl
                                    rw [add_field _ _ 2 (by omega)] at hv292_2
                                    replace hv292_2 := Option.some.inj (hv292_2.symm.trans hx292_2)
                                    rw [hv292_2] at ge292_2
                                    have HL292_2 := Aside0.mk (show Kd.R (Kd.int .u8) 5 _ _ _ _ ((rd_T26 t285 x16_3).f2) from ge292_2)
                                    clear hv292_2 ge292_2
                                    clear hcc292 hce292
                                    have HR292_2 := Aside0.mk hi292_2
                                    have HC292_2 := Aside0.mk hl292_2
                                    clear hi292_2 hl292_2
                                    replace p292 := eq_true p292
                                    replace q292 := eq_true q292
                                    have ea_ := Option.some.inj (hx290_2.symm.trans hx292_2)
                                    injection ea_ with ea_ en_ ec_
                                    subst ea_
                                    subst ec_
                                    clear en_
                                    have p293 : 0 ≤ (x16_3 : Int) := of_decide_eq_true (by first | (with_reducible assumption) | assumption)
                                    have q293 : x16_3 < (l2.length : Int) := of_decide_eq_true (by first | (with_reducible assumption) | assumption)
                                    obtain ⟨ad293, e293, hx293_0⟩ := Kd.at_int HR2.out x16_3 p293 q293
                                    cases e293
                                    replace hx293_0 := (HB.out.cell (World.block_lt_of_cell? w _ hx293_0)).trans hx293_0
                                    replace p293 := eq_true p293
                                    replace q293 := eq_true q293
                                    have p294 : 0 ≤ (x16_3 : Int) := of_decide_eq_true (by first | (with_reducible assumption) | assumption)
                                    have q294 : x16_3 < (t285.length : Int) := of_decide_eq_true (by first | (with_reducible assumption) | assumption)
                                    obtain ⟨ad294, A294_2, c294_2, e294, hx294_0, hx294_1, hx294_2, hl294_2, hi294_2⟩ := at_T26 (Kd.S_reads' HO_13.out).2.2 x16_3 p294 q294
                                    obtain rfl : ad290 = ad294 := (by injection e294)
                                    obtain ⟨ce294, hce294, hMe294, hcc294⟩ := Kd.S_get HO_13.out z26 x16_3 p294 (by first | exact q294 | exact of_decide_eq_true (by first | (with_reducible assumption) | assumption) | (have e_ := (Kd.S_reads' HO_13.out).1; omega))
                                    obtain ⟨ve294_2, rfl, ge294_2⟩ := k26_openM hMe294
                                    have hv294_2 := hcc294 2 _ rfl
                                    rw [add_field _ _ 2 (by omega)] at hv294_2
                                    replace hv294_2 := Option.some.inj (hv294_2.symm.trans hx294_2)
                                    rw [hv294_2] at ge294_2
                                    have HL294_2 := Aside0.mk (show Kd.R (Kd.int .u8) 5 _ _ _ _ ((rd_T26 t285 x16_3).f2) from ge294_2)
                                    clear hv294_2 ge294_2
                                    clear hcc294 hce294
                                    have HR294_2 := Aside0.mk hi294_2
                                    have HC294_2 := Aside0.mk hl294_2
                                    clear hi294_2 hl294_2
                                    replace p294 := eq_true p294
                                    replace q294 := eq_true q294
                                    have ea_ := Option.some.inj (hx290_2.symm.trans hx294_2)
                                    injection ea_ with ea_ en_ ec_
                                    subst ea_
                                    subst ec_
                                    clear en_
                                    have p295 : 0 ≤ (0 : Int) := (by omega)
                                    have q295 : 0 < (((rd_T26 t285 x16_3).f2).length : Int) := of_decide_eq_true (by first | (with_reducible assumption) | assumption)
                                    obtain ⟨ad295, e295, hx295_0⟩ := Kd.at_int (by repeat (first | (with_reducible exact HR294_2.out) | (with_reducible refine Kd.C_alloc ?_ _) | (with_reducible refine Kd.C_drewN ?_ _) | (with_reducible refine Kd.C_drew ?_) | exact HR294_2.out)) 0 p295 q295
                                    cases e295
                                    have qi295 : (0 < ((rd_T26 t285 x16_3).f2).length) = True := eq_true (by omega)
                                    (try rw [show ((0 : Int)).toNat = 0 from rfl] at hx295_0)
                                    (try rw [Addr.add_zero'] at hx295_0)
                                    replace p295 := eq_true p295
                                    replace q295 := eq_true q295
                                    go_wp2
                                    repeat (go_quiet (fail); try go_wp2)
                                    go_roundg k3
                                    case measure => have := HK1.out; have := HJ24.out; have := HK3.out; omega
                                    case rel => exact ⟨(wrap64 (x16_3 + 1)), (by first | rfl | (simp; done) | (simp [*]; done)), H', ⟨by have := HK1.out; have := HJ24.out; have := HK3.out; omega⟩, ⟨by (with_reducible repeat (first | apply Kd.S_alloc | apply Kd.S_drewN | apply Kd.S_drew)); exact HO_13.out⟩, ⟨by repeat (first | (with_reducible first | exact HB.out | apply below_alloc | apply pw_below_drewN | apply below_drew1) | exact HB.out)⟩⟩
                                  · rw [if_neg c40] at H
                                    have c40b0 : ((rd ((rd_T26 t285 x16_3).f2) 0) == ((x16_3) % 256)) = false := beq_eq_false_iff_ne.mpr c40
                                    have c40b1 : ((rd ((rd_T26 t285 x16_3).f2) 0) != ((x16_3) % 256)) = true := bne_iff_ne.mpr c40
                                    obtain rfl := Option.some.inj H
                                    obtain ⟨Ao42, co42, eo42⟩ := Kd.S_slice HO_13.out
                                    subst eo42
                                    have p290 : 0 ≤ (x16_3 : Int) := of_decide_eq_true (by first | (with_reducible assumption) | assumption)
                                    have q290 : x16_3 < (t285.length : Int) := of_decide_eq_true (by first | (with_reducible assumption) | assumption)
                                    obtain ⟨ad290, A290_2, c290_2, e290, hx290_0, hx290_1, hx290_2, hl290_2, hi290_2⟩ := at_T26 (Kd.S_reads' HO_13.out).2.2 x16_3 p290 q290
                                    cases e290
                                    obtain ⟨ce290, hce290, hMe290, hcc290⟩ := Kd.S_get HO_13.out z26 x16_3 p290 (by first | exact q290 | exact of_decide_eq_true (by first | (with_reducible assumption) | assumption) | (have e_ := (Kd.S_reads' HO_13.out).1; omega))
                                    obtain ⟨ve290_2, rfl, ge290_2⟩ := k26_openM hMe290
                                    have hv290_2 := hcc290 2 _ rfl
                                    rw [add_field _ _ 2 (by omega)] at hv290_2
                                    replace hv290_2 := Option.some.inj (hv290_2.symm.trans hx290_2)
                                    rw [hv290_2] at ge290_2
                                    have HL290_2 := Aside0.mk (show Kd.R (Kd.int .u8) 5 _ _ _ _ ((rd_T26 t285 x16_3).f2) from ge290_2)
                                    clear hv290_2 ge290_2
                                    clear hcc290 hce290
                                    have HR290_2 := Aside0.mk hi290_2
                                    have HC290_2 := Aside0.mk hl290_2
                                    clear hi290_2 hl290_2
                                    replace p290 := eq_true p290
                                    replace q290 := eq_true q290
                                    have p291 : 0 ≤ (x16_3 : Int) := of_decide_eq_true (by first | (with_reducible assumption) | assumption)
                                    have q291 : x16_3 < (t285.length : Int) := of_decide_eq_true (by first | (with_reducible assumption) | assumption)
                                    obtain ⟨ad291, A291_2, c291_2, e291, hx291_0, hx291_1, hx291_2, hl291_2, hi291_2⟩ := at_T26 (Kd.S_reads' HO_13.out).2.2 x16_3 p291 q291
                                    obtain rfl : ad290 = ad291 := (by injection e291)
                                    obtain ⟨ce291, hce291, hMe291, hcc291⟩ := Kd.S_get HO_13.out z26 x16_3 p291 (by first | exact q291 | exact of_decide_eq_true (by first | (with_reducible assumption) | assumption) | (have e_ := (Kd.S_reads' HO_13.out).1; omega))
                                    obtain ⟨ve291_2, rfl, ge291_2⟩ := k26_openM hMe291
                                    have hv291_2 := hcc291 2 _ rfl
                                    rw [add_field _ _ 2 (by omega)] at hv291_2
                                    replace hv291_2 := Option.some.inj (hv291_2.symm.trans hx291_2)
                                    rw [hv291_2] at ge291_2
                                    have HL291_2 := Aside0.mk (show Kd.R (Kd.int .u8) 5 _ _ _ _ ((rd_T26 t285 x16_3).f2) from ge291_2)
                                    clear hv291_2 ge291_2
                                    clear hcc291 hce291
                                    have HR291_2 := Aside0.mk hi291_2
                                    have HC291_2 := Aside0.mk hl291_2
                                    clear hi291_2 hl291_2
                                    replace p291 := eq_true p291
                                    replace q291 := eq_true q291
                                    have ea_ := Option.some.inj (hx290_2.symm.trans hx291_2)
                                    injection ea_ with ea_ en_ ec_
                                    subst ea_
                                    subst ec_
                                    clear en_
                                    have p292 : 0 ≤ (x16_3 : Int) := of_decide_eq_true (by first | (with_reducible assumption) | assumption)
                                    have q292 : x16_3 < (t285.length : Int) := of_decide_eq_true (by first | (with_reducible assumption) | assumption)
                                    obtain ⟨ad292, A292_2, c292_2, e292, hx292_0, hx292_1, hx292_2, hl292_2, hi292_2⟩ := at_T26 (Kd.S_reads' HO_13.out).2.2 x16_3 p292 q292
                                    obtain rfl : ad290 = ad292 := (by injection e292)
                                    obtain ⟨ce292, hce292, hMe292, hcc292⟩ := Kd.S_get HO_13.out z26 x16_3 p292 (by first | exact q292 | exact of_decide_eq_true (by first | (with_reducible assumption) | assumption) | (have e_ := (Kd.S_reads' HO_13.out).1; omega))
                                    obtain ⟨ve292_2, rfl, ge292_2⟩ := k26_openM hMe292
                                    have hv292_2 := hcc292 2 _ rfl
                                    rw [add_field _ _ 2 (by omega)] at hv292_2
                                    replace hv292_2 := Option.some.inj (hv292_2.symm.trans hx292_2)
                                    rw [hv292_2] at ge292_2
                                    have HL292_2 := Aside0.mk (show Kd.R (Kd.int .u8) 5 _ _ _ _ ((rd_T26 t285 x16_3).f2) from ge292_2)
                                    clear hv292_2 ge292_2
                                    clear hcc292 hce292
                                    have HR292_2 := Aside0.mk hi292_2
                                    have HC292_2 := Aside0.mk hl292_2
                                    clear hi292_2 hl292_2
                                    replace p292 := eq_true p292
                                    replace q292 := eq_true q292
                                    have ea_ := Option.some.inj (hx290_2.symm.trans hx292_2)
                                    injection ea_ with ea_ en_ ec_
                                    subst ea_
                                    subst ec_
                                    clear en_
                                    have p293 : 0 ≤ (x16_3 : Int) := of_decide_eq_true (by first | (with_reducible assumption) | assumption)
                                    have q293 : x16_3 < (l2.length : Int) := of_decide_eq_true (by first | (with_reducible assumption) | assumption)
                                    obtain ⟨ad293, e293, hx293_0⟩ := Kd.at_int HR2.out x16_3 p293 q293
                                    cases e293
                                    replace hx293_0 := (HB.out.cell (World.block_lt_of_cell? w _ hx293_0)).trans hx293_0
                                    replace p293 := eq_true p293
                                    replace q293 := eq_true q293
                                    have p294 : 0 ≤ (x16_3 : Int) := of_decide_eq_true (by first | (with_reducible assumption) | assumption)
                                    have q294 : x16_3 < (t285.length : Int) := of_decide_eq_true (by first | (with_reducible assumption) | assumption)
                                    obtain ⟨ad294, A294_2, c294_2, e294, hx294_0, hx294_1, hx294_2, hl294_2, hi294_2⟩ := at_T26 (Kd.S_reads' HO_13.out).2.2 x16_3 p294 q294
                                    obtain rfl : ad290 = ad294 := (by injection e294)
                                    obtain ⟨ce294, hce294, hMe294, hcc294⟩ := Kd.S_get HO_13.out z26 x16_3 p294 (by first | exact q294 | exact of_decide_eq_true (by first | (with_reducible assumption) | assumption) | (have e_ := (Kd.S_reads' HO_13.out).1; omega))
                                    obtain ⟨ve294_2, rfl, ge294_2⟩ := k26_openM hMe294
                                    have hv294_2 := hcc294 2 _ rfl
                                    rw [add_field _ _ 2 (by omega)] at hv294_2
                                    replace hv294_2 := Option.some.inj (hv294_2.symm.trans hx294_2)
                                    rw [hv294_2] at ge294_2
                                    have HL294_2 := Aside0.mk (show Kd.R (Kd.int .u8) 5 _ _ _ _ ((rd_T26 t285 x16_3).f2) from ge294_2)
                                    clear hv294_2 ge294_2
                                    clear hcc294 hce294
                                    have HR294_2 := Aside0.mk hi294_2
                                    have HC294_2 := Aside0.mk hl294_2
                                    clear hi294_2 hl294_2
                                    replace p294 := eq_true p294
                                    replace q294 := eq_true q294
                                    have ea_ := Option.some.inj (hx290_2.symm.trans hx294_2)
                                    injection ea_ with ea_ en_ ec_
                                    subst ea_
                                    subst ec_
                                    clear en_
                                    have p295 : 0 ≤ (0 : Int) := (by omega)
                                    have q295 : 0 < (((rd_T26 t285 x16_3).f2).length : Int) := of_decide_eq_true (by first | (with_reducible assumption) | assumption)
                                    obtain ⟨ad295, e295, hx295_0⟩ := Kd.at_int (by repeat (first | (with_reducible exact HR294_2.out) | (with_reducible refine Kd.C_alloc ?_ _) | (with_reducible refine Kd.C_drewN ?_ _) | (with_reducible refine Kd.C_drew ?_) | exact HR294_2.out)) 0 p295 q295
                                    cases e295
                                    have qi295 : (0 < ((rd_T26 t285 x16_3).f2).length) = True := eq_true (by omega)
                                    (try rw [show ((0 : Int)).toNat = 0 from rfl] at hx295_0)
                                    (try rw [Addr.add_zero'] at hx295_0)
                                    replace p295 := eq_true p295
                                    replace q295 := eq_true q295
                                    go_wp2
                                    repeat (go_quiet (fail); try go_wp2)
                                    go_ret
                                    exact ⟨by first | rfl | (simp [errW_none, errW_some] <;> rfl) | (simp [*, errW_none, errW_some] <;> rfl), by repeat (first | (with_reducible first | exact HB.out | apply below_alloc | apply pw_below_drewN | apply below_drew1) | exact HB.out)⟩
                                · rw [if_neg c39] at H
                                  exact absurd H (by simp)
                              · rw [if_neg c38] at H
                                have c38b0 : ((((rd_T26 t285 x16_3).f2).length : Int) == (wrap64 (1 + (Int.tmod (wrap64 (rd l2 x16_3)) 253)))) = false := beq_eq_false_iff_ne.mpr c38
                                have c38b1 : ((((rd_T26 t285 x16_3).f2).length : Int) != (wrap64 (1 + (Int.tmod (wrap64 (rd l2 x16_3)) 253)))) = true := bne_iff_ne.mpr c38
                                obtain rfl := Option.some.inj H
                                obtain ⟨Ao43, co43, eo43⟩ := Kd.S_slice HO_13.out
                                subst eo43
                                have p290 : 0 ≤ (x16_3 : Int) := of_decide_eq_true (by first | (with_reducible assumption) | assumption)
                                have q290 : x16_3 < (t285.length : Int) := of_decide_eq_true (by first | (with_reducible assumption) | assumption)
                                obtain ⟨ad290, A290_2, c290_2, e290, hx290_0, hx290_1, hx290_2, hl290_2, hi290_2⟩ := at_T26 (Kd.S_reads' HO_13.out).2.2 x16_3 p290 q290
                                cases e290
                                obtain ⟨ce290, hce290, hMe290, hcc290⟩ := Kd.S_get HO_13.out z26 x16_3 p290 (by first | exact q290 | exact of_decide_eq_true (by first | (with_reducible assumption) | assumption) | (have e_ := (Kd.S_reads' HO_13.out).1; omega))
                                obtain ⟨ve290_2, rfl, ge290_2⟩ := k26_openM hMe290
                                have hv290_2 := hcc290 2 _ rfl
                                rw [add_field _ _ 2 (by omega)] at hv290_2
                                replace hv290_2 := Option.some.inj (hv290_2.symm.trans hx290_2)
                                rw [hv290_2] at ge290_2
                                have HL290_2 := Aside0.mk (show Kd.R (Kd.int .u8) 5 _ _ _ _ ((rd_T26 t285 x16_3).f2) from ge290_2)
                                clear hv290_2 ge290_2
                                clear hcc290 hce290
                                have HR290_2 := Aside0.mk hi290_2
                                have HC290_2 := Aside0.mk hl290_2
                                clear hi290_2 hl290_2
                                replace p290 := eq_true p290
                                replace q290 := eq_true q290
                                have p291 : 0 ≤ (x16_3 : Int) := of_decide_eq_true (by first | (with_reducible assumption) | assumption)
                                have q291 : x16_3 < (t285.length : Int) := of_decide_eq_true (by first | (with_reducible assumption) | assumption)
                                obtain ⟨ad291, A291_2, c291_2, e291, hx291_0, hx291_1, hx291_2, hl291_2, hi291_2⟩ := at_T26 (Kd.S_reads' HO_13.out).2.2 x16_3 p291 q291
                                obtain rfl : ad290 = ad291 := (by injection e291)
                                obtain ⟨ce291, hce291, hMe291, hcc291⟩ := Kd.S_get HO_13.out z26 x16_3 p291 (by first | exact q291 | exact of_decide_eq_true (by first | (with_reducible assumption) | assumption) | (have e_ := (Kd.S_reads' HO_13.out).1; omega))
                                obtain ⟨ve291_2, rfl, ge291_2⟩ := k26_openM hMe291
                                have hv291_2 := hcc291 2 _ rfl
                                rw [add_field _ _ 2 (by omega)] at hv291_2
                                replace hv291_2 := Option.some.inj (hv291_2.symm.trans hx291_2)
                                rw [hv291_2] at ge291_2
                                have HL291_2 := Aside0.mk (show Kd.R (Kd.int .u8) 5 _ _ _ _ ((rd_T26 t285 x16_3).f2) from ge291_2)
                                clear hv291_2 ge291_2
                                clear hcc291 hce291
                                have HR291_2 := Aside0.mk hi291_2
                                have HC291_2 := Aside0.mk hl291_2
                                clear hi291_2 hl291_2
                                replace p291 := eq_true p291
                                replace q291 := eq_true q291
                                have ea_ := Option.some.inj (hx290_2.symm.trans hx291_2)
                                injection ea_ with ea_ en_ ec_
                                subst ea_
                                subst ec_
                                clear en_
                                have p292 : 0 ≤ (x16_3 : Int) := of_decide_eq_true (by first | (with_reducible assumption) | assumption)
                                have q292 : x16_3 < (t285.length : Int) := of_decide_eq_true (by first | (with_reducible assumption) | assumption)
                                obtain ⟨ad292, A292_2, c292_2, e292, hx292_0, hx292_1, hx292_2, hl292_2, hi292_2⟩ := at_T26 (Kd.S_reads' HO_13.out).2.2 x16_3 p292 q292
                                obtain rfl : ad290 = ad292 := (by injection e292)
                                obtain ⟨ce292, hce292, hMe292, hcc292⟩ := Kd.S_get HO_13.out z26 x16_3 p292 (by first | exact q292 | exact of_decide_eq_true (by first | (with_reducible assumption) | assumption) | (have e_ := (Kd.S_reads' HO_13.out).1; omega))
                                obtain ⟨ve292_2, rfl, ge292_2⟩ := k26_openM hMe292
                                have hv292_2 := hcc292 2 _ rfl
                                rw [add_field _ _ 2 (by omega)] at hv292_2
                                replace hv292_2 := Option.some.inj (hv292_2.symm.trans hx292_2)
                                rw [hv292_2] at ge292_2
                                have HL292_2 := Aside0.mk (show Kd.R (Kd.int .u8) 5 _ _ _ _ ((rd_T26 t285 x16_3).f2) from ge292_2)
                                clear hv292_2 ge292_2
                                clear hcc292 hce292
                                have HR292_2 := Aside0.mk hi292_2
                                have HC292_2 := Aside0.mk hl292_2
                                clear hi292_2 hl292_2
                                replace p292 := eq_true p292
                                replace q292 := eq_true q292
                                have ea_ := Option.some.inj (hx290_2.symm.trans hx292_2)
                                injection ea_ with ea_ en_ ec_
                                subst ea_
                                subst ec_
                                clear en_
                                have p293 : 0 ≤ (x16_3 : Int) := of_decide_eq_true (by first | (with_reducible assumption) | assumption)
                                have q293 : x16_3 < (l2.length : Int) := of_decide_eq_true (by first | (with_reducible assumption) | assumption)
                                obtain ⟨ad293, e293, hx293_0⟩ := Kd.at_int HR2.out x16_3 p293 q293
                                cases e293
                                replace hx293_0 := (HB.out.cell (World.block_lt_of_cell? w _ hx293_0)).trans hx293_0
                                replace p293 := eq_true p293
                                replace q293 := eq_true q293
                                go_wp2
                                repeat (go_quiet (fail); try go_wp2)
                                go_ret
                                exact ⟨by first | rfl | (simp [errW_none, errW_some] <;> rfl) | (simp [*, errW_none, errW_some] <;> rfl), by repeat (first | (with_reducible first | exact HB.out | apply below_alloc | apply pw_below_drewN | apply below_drew1) | exact HB.out)⟩
                            · rw [if_neg c37] at H
                              exact absurd H (by simp)
                          · rw [if_neg c36] at H
                            have c36b0 : (((rd_T26 t285 x16_3).f1) == a1) = false := beq_eq_false_iff_ne.mpr c36
                            have c36b1 : (((rd_T26 t285 x16_3).f1) != a1) = true := bne_iff_ne.mpr c36
                            obtain rfl := Option.some.inj H
                            obtain ⟨Ao44, co44, eo44⟩ := Kd.S_slice HO_13.out
                            subst eo44
                            have p290 : 0 ≤ (x16_3 : Int) := of_decide_eq_true (by first | (with_reducible assumption) | assumption)
                            have q290 : x16_3 < (t285.length : Int) := of_decide_eq_true (by first | (with_reducible assumption) | assumption)
                            obtain ⟨ad290, A290_2, c290_2, e290, hx290_0, hx290_1, hx290_2, hl290_2, hi290_2⟩ := at_T26 (Kd.S_reads' HO_13.out).2.2 x16_3 p290 q290
                            cases e290
                            obtain ⟨ce290, hce290, hMe290, hcc290⟩ := Kd.S_get HO_13.out z26 x16_3 p290 (by first | exact q290 | exact of_decide_eq_true (by first | (with_reducible assumption) | assumption) | (have e_ := (Kd.S_reads' HO_13.out).1; omega))
                            obtain ⟨ve290_2, rfl, ge290_2⟩ := k26_openM hMe290
                            have hv290_2 := hcc290 2 _ rfl
                            rw [add_field _ _ 2 (by omega)] at hv290_2
                            replace hv290_2 := Option.some.inj (hv290_2.symm.trans hx290_2)
                            rw [hv290_2] at ge290_2
                            have HL290_2 := Aside0.mk (show Kd.R (Kd.int .u8) 5 _ _ _ _ ((rd_T26 t285 x16_3).f2) from ge290_2)
                            clear hv290_2 ge290_2
                            clear hcc290 hce290
                            have HR290_2 := Aside0.mk hi290_2
                            have HC290_2 := Aside0.mk hl290_2
                            clear hi290_2 hl290_2
                            replace p290 := eq_true p290
                            replace q290 := eq_true q290
                            have p291 : 0 ≤ (x16_3 : Int) := of_decide_eq_true (by first | (with_reducible assumption) | assumption)
                            have q291 : x16_3 < (t285.length : Int) := of_decide_eq_true (by first | (with_reducible assumption) | assumption)
                            obtain ⟨ad291, A291_2, c291_2, e291, hx291_0, hx291_1, hx291_2, hl291_2, hi291_2⟩ := at_T26 (Kd.S_reads' HO_13.out).2.2 x16_3 p291 q291
                            obtain rfl : ad290 = ad291 := (by injection e291)
                            obtain ⟨ce291, hce291, hMe291, hcc291⟩ := Kd.S_get HO_13.out z26 x16_3 p291 (by first | exact q291 | exact of_decide_eq_true (by first | (with_reducible assumption) | assumption) | (have e_ := (Kd.S_reads' HO_13.out).1; omega))
                            obtain ⟨ve291_2, rfl, ge291_2⟩ := k26_openM hMe291
                            have hv291_2 := hcc291 2 _ rfl
                            rw [add_field _ _ 2 (by omega)] at hv291_2
                            replace hv291_2 := Option.some.inj (hv291_2.symm.trans hx291_2)
                            rw [hv291_2] at ge291_2
                            have HL291_2 := Aside0.mk (show Kd.R (Kd.int .u8) 5 _ _ _ _ ((rd_T26 t285 x16_3).f2) from ge291_2)
                            clear hv291_2 ge291_2
                            clear hcc291 hce291
                            have HR291_2 := Aside0.mk hi291_2
                            have HC291_2 := Aside0.mk hl291_2
                            clear hi291_2 hl291_2
                            replace p291 := eq_true p291
                            replace q291 := eq_true q291
                            have ea_ := Option.some.inj (hx290_2.symm.trans hx291_2)
                            injection ea_ with ea_ en_ ec_
                            subst ea_
                            subst ec_
                            clear en_
                            go_wp2
                            repeat (go_quiet (fail); try go_wp2)
                            go_ret
                            exact ⟨by first | rfl | (simp [errW_none, errW_some] <;> rfl) | (simp [*, errW_none, errW_some] <;> rfl), by repeat (first | (with_reducible first | exact HB.out | apply below_alloc | apply pw_below_drewN | apply below_drew1) | exact HB.out)⟩
                        · rw [if_neg c35] at H
                          have c35b0 : (((rd_T26 t285 x16_3).f0) == (IntKind.u16.wrap (a0 + (IntKind.u16.wrap (x16_3))))) = false := beq_eq_false_iff_ne.mpr c35
                          have c35b1 : (((rd_T26 t285 x16_3).f0) != (IntKind.u16.wrap (a0 + (IntKind.u16.wrap (x16_3))))) = true := bne_iff_ne.mpr c35
                          obtain rfl := Option.some.inj H
                          obtain ⟨Ao45, co45, eo45⟩ := Kd.S_slice HO_13.out
                          subst eo45
                          have p290 : 0 ≤ (x16_3 : Int) := of_decide_eq_true (by first | (with_reducible assumption) | assumption)
                          have q290 : x16_3 < (t285.length : Int) := of_decide_eq_true (by first | (with_reducible assumption) | assumption)
                          obtain ⟨ad290, A290_2, c290_2, e290, hx290_0, hx290_1, hx290_2, hl290_2, hi290_2⟩ := at_T26 (Kd.S_reads' HO_13.out).2.2 x16_3 p290 q290
                          cases e290
                          obtain ⟨ce290, hce290, hMe290, hcc290⟩ := Kd.S_get HO_13.out z26 x16_3 p290 (by first | exact q290 | exact of_decide_eq_true (by first | (with_reducible assumption) | assumption) | (have e_ := (Kd.S_reads' HO_13.out).1; omega))
                          obtain ⟨ve290_2, rfl, ge290_2⟩ := k26_openM hMe290
                          have hv290_2 := hcc290 2 _ rfl
                          rw [add_field _ _ 2 (by omega)] at hv290_2
                          replace hv290_2 := Option.some.inj (hv290_2.symm.trans hx290_2)
                          rw [hv290_2] at ge290_2
                          have HL290_2 := Aside0.mk (show Kd.R (Kd.int .u8) 5 _ _ _ _ ((rd_T26 t285 x16_3).f2) from ge290_2)
                          clear hv290_2 ge290_2
                          clear hcc290 hce290
                          have HR290_2 := Aside0.mk hi290_2
                          have HC290_2 := Aside0.mk hl290_2
                          clear hi290_2 hl290_2
                          replace p290 := eq_true p290
                          replace q290 := eq_true q290
                          go_wp2
                          repeat (go_quiet (fail); try go_wp2)
                          go_ret
                          exact ⟨by first | rfl | (simp [errW_none, errW_some] <;> rfl) | (simp [*, errW_none, errW_some] <;> rfl), by repeat (first | (with_reducible first | exact HB.out | apply below_alloc | apply pw_below_drewN | apply below_drew1) | exact HB.out)⟩
                      · rw [if_neg c34] at H
                        exact absurd H (by simp)
                    · rw [if_neg c33] at H
                      have c33b0 : decide (x16_3 < (t285.length : Int)) = false := decide_eq_false c33
                      clear c33
                      obtain rfl := Option.some.inj H
                      obtain ⟨Ao46, co46, eo46⟩ := Kd.S_slice HO_13.out
                      subst eo46
                      go_wp2
                      repeat (go_quiet (fail); try go_wp2)
                      go_ret
                      exact ⟨by first | rfl | (simp [errW_none, errW_some] <;> rfl) | (simp [*, errW_none, errW_some] <;> rfl), by repeat (first | (with_reducible first | exact HB.out | apply below_alloc | apply pw_below_drewN | apply below_drew1) | exact HB.out)⟩

/-- THE ONE PURE STATEMENT of watchkeeperlaw03_MbapMany: yours. -/
def watchkeeperlaw03_MbapMany.Pure : Prop := ∀ (a0 : Int) (a1 : Int) (l2 : List Int), (Lit.int .u16 a0).wf = true → (Lit.int .u8 a1).wf = true → l2.length ≤ maxLen → l2.length * 1 ≤ 140737488351232 → (∀ x ∈ l2, (Lit.int .u8 x).wf = true) → ∃ k, watchkeeperlaw03_MbapMany.f k a0 a1 l2 = some true
theorem watchkeeperlaw03_MbapMany.walk (P : watchkeeperlaw03_MbapMany.Pure) (a0 : Int) (a1 : Int) (a2 : Option Addr) (len2 cap2 : Nat) (z2 : List Int) (w : World) (w0 : (Lit.int .u16 a0).wf = true) (w1 : (Lit.int .u8 a1).wf = true) (w2 : (a2 = none ∧ len2 = 0 ∧ cap2 = 0 ∧ z2 = []) ∨ ∃ x, a2 = some x ∧ len2 ≤ cap2 ∧ cap2 ≤ maxLen ∧ z2.length = cap2 ∧ (∀ i, i < z2.length → w.cell? (x.add i) = some (.int .u8 (z2.getD i 0))) ∧ ∀ n ∈ z2, (Lit.int .u8 n).wf = true) (y2 : len2 * 1 ≤ 140737488351232) :
    Calls Try.prog 8 #[.int .u16 a0, .int .u8 a1, .slice a2 len2 cap2] w fun e w' => e = .returned (.bool true) ∧ Below w.heap.size w w' := by
  obtain ⟨l2, rfl, hr2, hm2, hw2, hc2⟩ := ReadsInt.ofRowC w2
  obtain ⟨k, h⟩ := P a0 a1 l2 w0 w1 hm2 y2 hw2
  refine (watchkeeperlaw03_MbapMany.calls k a0 a1 _ _ l2 true w (Kd.C_of_reads (d := (0 : Int)) (h1 := fun _ => rfl) hr2) hc2 h).mono ?_
  rintro e w' ⟨rfl, hd⟩
  exact ⟨rfl, hd⟩

end Go.Proofs.Ytkmmkoiibcdmeaa.QD
