/- Contracts of the functions that the law reaches, and what each comes to as a plain function; laid by a program of mine over the printer. -/
import Derived.Test.YthhgomobjcpdoaaQA0
import Derived.Test.YthhgomobjcpdoaaQA1
namespace Go.Proofs.Ythhgomobjcpdoaa.QA
open Go.RowKit Go.Proofs.YthhgomobjcpdoaaW.PrintWords Go.Proofs.YthhgomobjcpdoaaW.PrintLast Go.Proofs.YthhgomobjcpdoaaW.PrintMore
attribute [local go_sem] max2_int min2_int max_two min_two max_three min_three max_four min_four   -- for this text's walks alone
set_option linter.unusedVariables false
set_option linter.unusedSimpArgs false

/-! ### watchkeeperlaw13_VoteTurns: function 5 -/
mutual
def watchkeeperlaw13_VoteTurns.j0 : Nat → Int → List (S29) → Int → Bool → Bool → Option (Bool)
  | 0, _, _, _, _, _ => none
  | k + 1, x0, x1, x2, x7, x20 => if x20 = true then (some x7) else (if (x1.length : Int) = 0 then (none) else ((some (([] : List (S29)) : List (S29))).bind fun y176 => (if 0 ≤ (Int.tmod (wrap64 (x2)) (x1.length : Int)) then (if (Int.tmod (wrap64 (x2)) (x1.length : Int)) ≤ (x1.length : Int) then ((some (x1.drop ((Int.tmod (wrap64 (x2)) (x1.length : Int)) : Int).toNat : List (S29))).bind fun y179 => (if y176.length + y179.length < 46912496118442 then ((some (y176 ++ y179 : List (S29))).bind fun y183 => ((some (x1.take ((Int.tmod (wrap64 (x2)) (x1.length : Int)) : Int).toNat : List (S29))).bind fun y186 => (if y183.length + y186.length < 46912496118442 then (watchkeeperlaw13_VoteTurns.l0 k x0 x1 x7 (y183 ++ y186) 0) else (none)))) else (none))) else (none)) else (none))))
def watchkeeperlaw13_VoteTurns.l0 : Nat → Int → List (S29) → Bool → List (S29) → Int → Option (Bool)
  | 0, _, _, _, _, _ => none
  | k + 1, x0, x1, x7, x9, x10 => if (wrap64 (x10 + 1)) < (x9.length : Int) then (if 0 ≤ x10 then (if x10 < (x9.length : Int) then (if 0 ≤ (wrap64 (x10 + 1)) then (watchkeeperlaw13_VoteTurns.l0 k x0 x1 x7 ((x9.set (x10 : Int).toNat (⟨(rd_T29 x9 (wrap64 (x10 + 1))).f0, (rd_T29 x9 (wrap64 (x10 + 1))).f1, (rd_T29 x9 (wrap64 (x10 + 1))).f2⟩ : S29)).set ((wrap64 (x10 + 1)) : Int).toNat (⟨(rd_T29 x9 x10).f0, (rd_T29 x9 x10).f1, (rd_T29 x9 x10).f2⟩ : S29)) (wrap64 (x10 + 2))) else (none)) else (none)) else (none)) else (if x7 = true then ((vote_Trips.f x0 x9).bind fun t198 => ((vote_Trips.f x0 x1).bind fun t199 => (if (t198 == t199) = true then ((vote_Yes.f x9).bind fun t200 => ((vote_Yes.f x1).bind fun t201 => (if t200 = t201 then ((vote_Need.f x0 x9).bind fun t202 => ((vote_Need.f x0 x1).bind fun t203 => (if t202 = t203 then ((vote_Healthy.f x0 x9).bind fun t204 => ((vote_Healthy.f x0 x1).bind fun t205 => (some (t204 == t205)))) else (some false)))) else (some false)))) else (some false)))) else (some false))
end
def watchkeeperlaw13_VoteTurns.f (k : Nat) (a0 : Int) (l1 : List (S29)) (a2 : Int) : Option (Bool) := (watchkeeperlaw13_head.f).bind fun t175 => (if (l1.length : Int) > 5000 then (watchkeeperlaw13_VoteTurns.j0 k a0 l1 a2 t175 true) else (watchkeeperlaw13_VoteTurns.j0 k a0 l1 a2 t175 ((l1.length : Int) == 0)))
theorem watchkeeperlaw13_VoteTurns.mono_l : ∀ k, (∀ y0 y1 y2 y3 y4, LeO (watchkeeperlaw13_VoteTurns.j0 k y0 y1 y2 y3 y4) (watchkeeperlaw13_VoteTurns.j0 (k + 1) y0 y1 y2 y3 y4)) ∧ (∀ y0 y1 y2 y3 y4, LeO (watchkeeperlaw13_VoteTurns.l0 k y0 y1 y2 y3 y4) (watchkeeperlaw13_VoteTurns.l0 (k + 1) y0 y1 y2 y3 y4))
  | 0 => ⟨fun _ _ _ _ _ r h => by simp [watchkeeperlaw13_VoteTurns.j0] at h, fun _ _ _ _ _ r h => by simp [watchkeeperlaw13_VoteTurns.l0] at h⟩
  | k + 1 => by
    obtain ⟨ih0, ih1⟩ := watchkeeperlaw13_VoteTurns.mono_l k
    refine ⟨?_, ?_⟩
    · intro y0 y1 y2 y3 y4
      unfold watchkeeperlaw13_VoteTurns.j0
      repeat' first
      | (with_reducible exact ih0 _ _ _ _ _)
      | (with_reducible exact ih1 _ _ _ _ _)
      | (with_reducible exact LeO.refl _)
      | (with_reducible exact LeO.none _)
      | (with_reducible refine LeO.ite ?_ ?_)
      | (with_reducible refine LeO.bind ?_ (fun _ => ?_))
      | exact ih0 _ _ _ _ _
      | exact ih1 _ _ _ _ _
      | exact LeO.none _
      | refine LeO.ite ?_ ?_
      | refine LeO.bind ?_ (fun _ => ?_)
    · intro y0 y1 y2 y3 y4
      unfold watchkeeperlaw13_VoteTurns.l0
      repeat' first
      | (with_reducible exact ih0 _ _ _ _ _)
      | (with_reducible exact ih1 _ _ _ _ _)
      | (with_reducible exact LeO.refl _)
      | (with_reducible exact LeO.none _)
      | (with_reducible refine LeO.ite ?_ ?_)
      | (with_reducible refine LeO.bind ?_ (fun _ => ?_))
      | exact ih0 _ _ _ _ _
      | exact ih1 _ _ _ _ _
      | exact LeO.none _
      | refine LeO.ite ?_ ?_
      | refine LeO.bind ?_ (fun _ => ?_)
theorem watchkeeperlaw13_VoteTurns.mono : ∀ a0 a1 a2 k, LeO (watchkeeperlaw13_VoteTurns.f k a0 a1 a2) (watchkeeperlaw13_VoteTurns.f (k + 1) a0 a1 a2) := by
  intro a0 a1 a2 k
  obtain ⟨ih0, ih1⟩ := watchkeeperlaw13_VoteTurns.mono_l k
  unfold watchkeeperlaw13_VoteTurns.f
  repeat' first
      | (with_reducible exact ih0 _ _ _ _ _)
      | (with_reducible exact ih1 _ _ _ _ _)
      | (with_reducible exact LeO.refl _)
      | (with_reducible exact LeO.none _)
      | (with_reducible refine LeO.ite ?_ ?_)
      | (with_reducible refine LeO.bind ?_ (fun _ => ?_))
      | exact ih0 _ _ _ _ _
      | exact ih1 _ _ _ _ _
      | exact LeO.none _
      | refine LeO.ite ?_ ?_
      | refine LeO.bind ?_ (fun _ => ?_)
def watchkeeperlaw13_VoteTurns.T5 : Bool × List (List Nat × List Nat) := (true, [([], []), ([], []), ([], []), ([1, 2], [1, 2]), ([0, 3], [0, 3]), ([], []), ([], []), ([5, 6], [5, 6]), ([4, 7, 4], [4, 7]), ([8, 8, 0, 1, 2, 3, 4, 5, 6, 7, 8], [8])])
def watchkeeperlaw13_VoteTurns.B5 : List Nat := [0, 0, 0, 6, 15, 0, 0, 96, 255, 511]
theorem watchkeeperlaw13_VoteTurns.tab5 : rtab .any (opsOf Try.f5 5) = watchkeeperlaw13_VoteTurns.T5 := by kernel_rfl
theorem watchkeeperlaw13_VoteTurns.bits5 : waitsOk watchkeeperlaw13_VoteTurns.T5.2 watchkeeperlaw13_VoteTurns.B5 = true := by kernel_rfl
set_option maxHeartbeats 8000000 in
set_option maxRecDepth 100000 in
theorem watchkeeperlaw13_VoteTurns.calls (k : Nat) (a0 : Int) (A1 : Option Addr) (c1 : Nat) (l1 : List (S29)) (a2 : Int) (r : Bool) (w : World) (hr1 : Kd.C k29 w A1 l1.length l1) (hc1 : l1.length ≤ c1) (h : watchkeeperlaw13_VoteTurns.f k a0 l1 a2 = some r) :
    Calls Try.prog 5 #[.int .i64 a0, .slice A1 l1.length c1, .int .u16 a2] w fun e w' => e = .returned (.bool r) ∧ Below w.heap.size w w' := by
  have hu29 := Try.underlying29
  have HR1 := Aside0.mk hr1
  have HC1 := Aside0.mk hc1
  clear hr1 hc1
  have HB := Aside0.mk (Below.refl w.heap.size w)
  have H : ((watchkeeperlaw13_head.f).bind fun t175 => (if (l1.length : Int) > 5000 then (watchkeeperlaw13_VoteTurns.j0 k a0 l1 a2 t175 true) else (watchkeeperlaw13_VoteTurns.j0 k a0 l1 a2 t175 ((l1.length : Int) == 0)))) = some r := h
  clear h
  replace H := Option.bind_eq_some_iff.mp H
  obtain ⟨t175, A40, H⟩ := H
  replace H : (if (l1.length : Int) > 5000 then (watchkeeperlaw13_VoteTurns.j0 k a0 l1 a2 t175 true) else (watchkeeperlaw13_VoteTurns.j0 k a0 l1 a2 t175 ((l1.length : Int) == 0))) = some r := H
  have A4 := Aside0.mk A40
  clear A40
  have HC5 := Aside0.mk H
  clear H
  go_enter Try.func5, Try.ntmps5
  go_upto_region 2 with (first | ((with_reducible refine gate_callee (f := 8) rfl ?_); refine goesL_ (some 12) rfl rfl Try.func8 (by kernel_rfl) rfl #[] rfl (by (try simp only [List.map_toArray, List.map_cons, List.map_nil]); first | done | rfl | (simp only [List.length_drop, List.length_take]; rfl)) ?_; (with_reducible refine (watchkeeperlaw13_head.calls  t175 _ A4.out).mono ?_); rintro e w6 ⟨rfl, hb⟩; refine ⟨_, rfl, ?_⟩; have n0_ := Aside0.mk (below_step (by repeat (first | (with_reducible first | exact HB.out | apply below_alloc | apply pw_below_drewN | apply below_drew1) | exact HB.out)) hb); clear HB; have HB := n0_; clear n0_; (try clear hb); (try clear hb2); (try clear hgn); (try clear hk); (try clear hi)))
  (try simp only [Act.put, List.setIfInBounds_toArray, List.set_cons_zero, List.set_cons_succ])
  go_cut [20] (fun v20 wc => ∃ (kq : Nat) (x20_4 : Bool), v20 = .bool x20_4 ∧ Aside0 (watchkeeperlaw13_VoteTurns.j0 kq a0 l1 a2 t175 x20_4 = some r) ∧ Aside0 (kq ≤ k) ∧ Aside0 (Below w.heap.size w wc))
  case first =>
    have H := HC5.out
    clear HC5
    by_cases c7 : (l1.length : Int) > 5000
    · rw [if_pos c7] at H
      have c7b0 : decide (5000 < (l1.length : Int)) = true := decide_eq_true c7
      have c7b1 : decide (5000 < l1.length) = true := decide_eq_true (by omega)
      clear c7
      (first | rw [c7b0] | (simp only [i64_w, i32_w]; rw [c7b0]) | skip)
      have H' := Aside0.mk H
      clear H
      go_wp2
      go_meet
      case rel => exact ⟨_, (true), (by first | rfl | (simp; done) | (simp [*]; done)), H', ⟨by first | omega | exact Nat.le_refl _⟩, ⟨by repeat (first | (with_reducible first | exact HB.out | apply below_alloc | apply pw_below_drewN | apply below_drew1) | exact HB.out)⟩⟩
    · rw [if_neg c7] at H
      have c7b0 : decide (5000 < (l1.length : Int)) = false := decide_eq_false c7
      have c7b1 : decide (5000 < l1.length) = false := decide_eq_false (by omega)
      clear c7
      (first | rw [c7b0] | (simp only [i64_w, i32_w]; rw [c7b0]) | skip)
      have H' := Aside0.mk H
      clear H
      go_wp2
      go_meet
      case rel => exact ⟨_, (((l1.length : Int) == 0)), (by first | rfl | (simp; done) | (simp [*]; done)), H', ⟨by first | omega | exact Nat.le_refl _⟩, ⟨by repeat (first | (with_reducible first | exact HB.out | apply below_alloc | apply pw_below_drewN | apply below_drew1) | exact HB.out)⟩⟩
  case rest =>
    clear HC5
    try clear c1
    try clear p2
    try clear c5
    try clear c7
    try clear c7b0
    try clear c7b1
    obtain ⟨kq, x20_4, rfl, HA, HJ4, HB⟩ := hcut
    cases kq with
    | zero => exact absurd HA.out (by simp [watchkeeperlaw13_VoteTurns.j0])
    | succ kj4 =>
      have H := HA.out
      clear HA
      simp only [watchkeeperlaw13_VoteTurns.j0] at H
      by_cases c8 : x20_4 = true
      · subst c8
        have H1 : (some t175) = some r := by rw [if_pos rfl] at H; exact H
        clear H
        have H := H1
        clear H1
        obtain rfl := Option.some.inj H
        go_wp2
        go_ret
        exact ⟨by first | rfl | (simp [errW_none, errW_some] <;> rfl) | (simp [*, errW_none, errW_some] <;> rfl), by repeat (first | (with_reducible first | exact HB.out | apply below_alloc | apply pw_below_drewN | apply below_drew1) | exact HB.out)⟩
      · replace c8 := Bool.eq_false_iff.mpr c8
        subst c8
        have H1 : (if (l1.length : Int) = 0 then (none) else ((some (([] : List (S29)) : List (S29))).bind fun y176 => (if 0 ≤ (Int.tmod (wrap64 (a2)) (l1.length : Int)) then (if (Int.tmod (wrap64 (a2)) (l1.length : Int)) ≤ (l1.length : Int) then ((some (l1.drop ((Int.tmod (wrap64 (a2)) (l1.length : Int)) : Int).toNat : List (S29))).bind fun y179 => (if y176.length + y179.length < 46912496118442 then ((some (y176 ++ y179 : List (S29))).bind fun y183 => ((some (l1.take ((Int.tmod (wrap64 (a2)) (l1.length : Int)) : Int).toNat : List (S29))).bind fun y186 => (if y183.length + y186.length < 46912496118442 then (watchkeeperlaw13_VoteTurns.l0 kj4 a0 l1 t175 (y183 ++ y186) 0) else (none)))) else (none))) else (none)) else (none)))) = some r := by rw [if_neg (show ¬ (false = true) by decide)] at H; exact H
        clear H
        have H := H1
        clear H1
        by_cases c9 : (l1.length : Int) = 0
        · rw [if_pos c9] at H
          exact absurd H (by simp)
        · rw [if_neg c9] at H
          have c9b0 : ((l1.length : Int) == 0) = false := beq_eq_false_iff_ne.mpr c9
          have c9b1 : ((l1.length : Int) != 0) = true := bne_iff_ne.mpr c9
          have c9b2 : ¬ (l1 = []) := fun h_ => c9 (by rw [h_]; rfl)
          obtain ⟨y176, hy176⟩ : ∃ y_ : List (S29), y_ = (([] : List (S29))) := ⟨_, rfl⟩
          replace H : (if 0 ≤ (Int.tmod (wrap64 (a2)) (l1.length : Int)) then (if (Int.tmod (wrap64 (a2)) (l1.length : Int)) ≤ (l1.length : Int) then ((some (l1.drop ((Int.tmod (wrap64 (a2)) (l1.length : Int)) : Int).toNat : List (S29))).bind fun y179 => (if y176.length + y179.length < 46912496118442 then ((some (y176 ++ y179 : List (S29))).bind fun y183 => ((some (l1.take ((Int.tmod (wrap64 (a2)) (l1.length : Int)) : Int).toNat : List (S29))).bind fun y186 => (if y183.length + y186.length < 46912496118442 then (watchkeeperlaw13_VoteTurns.l0 kj4 a0 l1 t175 (y183 ++ y186) 0) else (none)))) else (none))) else (none)) else (none)) = some r := by first | (rw [hy176]; with_reducible exact H) | (have H2_ := (Option.bind_some _ _).symm.trans H; rw [hy176]; with_reducible exact H2_) | (have H2_ := (Option.bind_some _ _).symm.trans H; with_reducible exact H2_) | with_reducible exact H | (rw [hy176]; exact H) | exact H
          have Ny176 := Aside0.mk hy176
          clear hy176
          obtain ⟨ji10, hji10⟩ : ∃ j_ : Int, (Int.tmod (wrap64 (a2)) (l1.length : Int)) = j_ := ⟨_, rfl⟩
          replace H : (if 0 ≤ (ji10) then (if (ji10) ≤ (l1.length : Int) then ((some (l1.drop ((ji10) : Int).toNat : List (S29))).bind fun y179 => (if y176.length + y179.length < 46912496118442 then ((some (y176 ++ y179 : List (S29))).bind fun y183 => ((some (l1.take ((ji10) : Int).toNat : List (S29))).bind fun y186 => (if y183.length + y186.length < 46912496118442 then (watchkeeperlaw13_VoteTurns.l0 kj4 a0 l1 t175 (y183 ++ y186) 0) else (none)))) else (none))) else (none)) else (none)) = some r := by first | (rw [hji10] at H; exact H) | (simp only [hji10] at H ⊢; exact H)
          by_cases c11 : 0 ≤ (ji10)
          · rw [if_pos c11] at H
            have c11b0 := eq_true c11
            have c11b1 : decide (0 ≤ (ji10)) = true := decide_eq_true c11
            clear c11
            by_cases c12 : (ji10) ≤ (l1.length : Int)
            · rw [if_pos c12] at H
              have c12b0 := eq_true c12
              have c12b1 : decide ((ji10) ≤ (l1.length : Int)) = true := decide_eq_true c12
              clear c12
              obtain ⟨y179, hy179⟩ : ∃ y_ : List (S29), y_ = (l1.drop ((ji10) : Int).toNat) := ⟨_, rfl⟩
              replace H : (if y176.length + y179.length < 46912496118442 then ((some (y176 ++ y179 : List (S29))).bind fun y183 => ((some (l1.take ((ji10) : Int).toNat : List (S29))).bind fun y186 => (if y183.length + y186.length < 46912496118442 then (watchkeeperlaw13_VoteTurns.l0 kj4 a0 l1 t175 (y183 ++ y186) 0) else (none)))) else (none)) = some r := by first | (rw [hy179]; with_reducible exact H) | (have H2_ := (Option.bind_some _ _).symm.trans H; rw [hy179]; with_reducible exact H2_) | (have H2_ := (Option.bind_some _ _).symm.trans H; with_reducible exact H2_) | with_reducible exact H | (rw [hy179]; exact H) | exact H
              have Ny179 := Aside0.mk hy179
              clear hy179
              by_cases c13 : y176.length + y179.length < 46912496118442
              · rw [if_pos c13] at H
                have LMc13 := Aside0.mk c13
                clear c13
                obtain ⟨y183, hy183⟩ : ∃ y_ : List (S29), y_ = (y176 ++ y179) := ⟨_, rfl⟩
                replace H : ((some (l1.take ((ji10) : Int).toNat : List (S29))).bind fun y186 => (if y183.length + y186.length < 46912496118442 then (watchkeeperlaw13_VoteTurns.l0 kj4 a0 l1 t175 (y183 ++ y186) 0) else (none))) = some r := by first | (rw [hy183]; with_reducible exact H) | (have H2_ := (Option.bind_some _ _).symm.trans H; rw [hy183]; with_reducible exact H2_) | (have H2_ := (Option.bind_some _ _).symm.trans H; with_reducible exact H2_) | with_reducible exact H | (rw [hy183]; exact H) | exact H
                have Ny183 := Aside0.mk hy183
                clear hy183
                have c14b0 := eq_true (of_decide_eq_true (by first | (with_reducible assumption) | assumption) : 0 ≤ (ji10))
                have c15b0 := eq_true (of_decide_eq_true (by first | (with_reducible assumption) | assumption) : (ji10) ≤ (l1.length : Int))
                obtain ⟨y186, hy186⟩ : ∃ y_ : List (S29), y_ = (l1.take ((ji10) : Int).toNat) := ⟨_, rfl⟩
                replace H : (if y183.length + y186.length < 46912496118442 then (watchkeeperlaw13_VoteTurns.l0 kj4 a0 l1 t175 (y183 ++ y186) 0) else (none)) = some r := by first | (rw [hy186]; with_reducible exact H) | (have H2_ := (Option.bind_some _ _).symm.trans H; rw [hy186]; with_reducible exact H2_) | (have H2_ := (Option.bind_some _ _).symm.trans H; with_reducible exact H2_) | with_reducible exact H | (rw [hy186]; exact H) | exact H
                have Ny186 := Aside0.mk hy186
                clear hy186
                by_cases c16 : y183.length + y186.length < 46912496118442
                · rw [if_pos c16] at H
                  have LMc16 := Aside0.mk c16
                  clear c16
                  obtain ⟨y190, hy190⟩ : ∃ y_ : List (S29), y_ = (y183 ++ y186) := ⟨_, rfl⟩
                  replace H : (watchkeeperlaw13_VoteTurns.l0 kj4 a0 l1 t175 y190 0) = some r := by first | (rw [hy190]; with_reducible exact H) | (have H2_ := (Option.bind_some _ _).symm.trans H; rw [hy190]; with_reducible exact H2_) | (have H2_ := (Option.bind_some _ _).symm.trans H; with_reducible exact H2_) | with_reducible exact H | (rw [hy190]; exact H) | exact H
                  have Ny190 := Aside0.mk hy190
                  clear hy190
                  have H' := Aside0.mk H
                  clear H
                  try go_wp2
                  have n0_ := Aside0.mk (below_drew1 HB.out)
                  clear HB
                  have HB := n0_
                  clear n0_
                  have q18 : ((ji10) : Int) ≤ ((l1.length : Int) : Int) := of_decide_eq_true (by first | (with_reducible assumption) | assumption)
                  obtain ⟨i018, hi018, _, hsz18, _⟩ := info_parts info29
                  have hroom18 : l1.length ≤ c1 := HC1.out
                  have hC18 : Kd.C k29 _ A1 l1.length l1 := HR1.out
                  have q018 : (0 : Int) ≤ ((ji10) : Int) := of_decide_eq_true (by first | (with_reducible assumption) | assumption)
                  have hcut18 := cut_from (P := Try.prog) 22 29 .i64 Try.underlying22 hi018 3 hsz18 A1 l1.length c1 (ji10) q018 q18
                  have hr18 := Kd.C_drop (m := ((ji10) : Int).toNat) (c := c1) hC18 (by omega) hroom18
                  obtain ⟨A18, hA18⟩ : ∃ Az_, Az_ = (if c1 = ((ji10) : Int).toNat then A1 else (A1 : Option Addr).map (·.add (((ji10) : Int).toNat * 3))) := ⟨_, rfl⟩
                  obtain ⟨c18, hc18⟩ : ∃ cz_, cz_ = c1 - ((ji10) : Int).toNat := ⟨_, rfl⟩
                  have hy18 : y179.length = l1.length - ((ji10) : Int).toNat := (by rw [Ny179.out, List.length_drop] <;> omega)
                  rw [show (l1).drop ((ji10) : Int).toNat = y179 from Ny179.out.symm] at hr18
                  replace hr18 : Kd.C k29 _ A18 y179.length y179 := (by rw [hA18]; exact hr18)
                  rw [← hy18, ← hA18, ← hc18] at hcut18
                  have HR182 := Aside0.mk hr18
                  have HC182 := Aside0.mk (show y179.length ≤ c18 from by rw [hy18, hc18]; exact Nat.sub_le_sub_right hroom18 _)
                  clear hr18 hC18 hroom18 hi018 hsz18 hc18
                  have KY18 := Aside0.mk hy18
                  have KA18 := Aside0.mk hA18
                  clear hy18 hA18
                  replace q18 := eq_true q18
                  have q19 : ((ji10) : Int) ≤ ((l1.length : Int) : Int) := of_decide_eq_true (by first | (with_reducible assumption) | assumption)
                  obtain ⟨i019, hi019, _, hsz19, _⟩ := info_parts info29
                  have hroom19 : l1.length ≤ c1 := HC1.out
                  have hC19 : Kd.C k29 _ A1 l1.length l1 := HR1.out
                  have hcut19 := cut_to (P := Try.prog) 22 29 .i64 Try.underlying22 hi019 A1 l1.length c1 (ji10) (of_decide_eq_true (by first | (with_reducible assumption) | assumption)) q19 hroom19
                  have hr19 := Kd.C_take (m := ((ji10) : Int).toNat) hC19 (by omega)
                  have hy19 : y186.length = ((ji10) : Int).toNat := (by rw [Ny186.out, List.length_take]; omega)
                  rw [← Ny186.out] at hr19
                  rw [← hy19] at hcut19
                  have HR189 := Aside0.mk hr19
                  have HC189 := Aside0.mk (show y186.length ≤ c1 from by omega)
                  clear hr19 hC19 hroom19 hi019 hsz19
                  have KY19 := Aside0.mk hy19
                  clear hy19
                  replace q19 := eq_true q19
                  refine start_ (n := 10) (S := fun w' => True) (ds := []) #[false, false, false, false, false, false, false, false, false, false] (by kernel_rfl) rfl rfl trivial (fun hHeld => ?_); refine with_tabW watchkeeperlaw13_VoteTurns.tab5 watchkeeperlaw13_VoteTurns.bits5 (fun HT_ HW_ => ?_)
                  generalize wc.drew = w17 at HB HR182 HR189 hHeld ⊢
                  refine pure_ (i := 1) (N := some 28) (v := ?_) (a' := ?_) #[false, true, false, false, false, false, false, false, false, false] rfl rfl (any_of HT_.out (by kernel_rfl)) (fun _ _ _ h => h) (Or.inl ⟨by rfl, ?_⟩) ?_ ?_
                  rotate_left
                  · intro w'
                    go_simp
                    with_reducible rfl
                  rotate_left
                  · simp only [Act.put, List.setIfInBounds_toArray, List.set_cons_zero, List.set_cons_succ, i64_w, i32_w]
                    rfl
                  refine pure_ (i := 2) (N := some 29) (v := ?_) (a' := ?_) #[false, true, true, false, false, false, false, false, false, false] rfl rfl (any_of HT_.out (by kernel_rfl)) (fun _ _ _ h => h) (Or.inl ⟨by rfl, ?_⟩) ?_ ?_
                  rotate_left
                  · intro w'
                    go_simp
                    with_reducible rfl
                  rotate_left
                  · simp only [Act.put, List.setIfInBounds_toArray, List.set_cons_zero, List.set_cons_succ, i64_w, i32_w]
                    rfl
                  refine pure_ (i := 3) (N := some 30) (v := ?_) (a' := ?_) #[false, true, true, true, false, false, false, false, false, false] rfl rfl (any_of HT_.out (by kernel_rfl)) (fun _ _ _ h => h) (Or.inl ⟨by rfl, ?_⟩) ?_ ?_
                  rotate_left
                  · intro w'
                    go_simp
                    with_reducible rfl
                  rotate_left
                  · simp only [Act.put, List.setIfInBounds_toArray, List.set_cons_zero, List.set_cons_succ, i64_w, i32_w]
                    rfl
                  refine pure_ (i := 5) (N := some 32) (v := ?_) (a' := ?_) #[false, true, true, true, false, true, false, false, false, false] rfl rfl (any_of HT_.out (by kernel_rfl)) (fun _ _ _ h => h) (Or.inl ⟨by rfl, ?_⟩) ?_ ?_
                  rotate_left
                  · intro w'
                    go_simp
                    with_reducible rfl
                  rotate_left
                  · simp only [Act.put, List.setIfInBounds_toArray, List.set_cons_zero, List.set_cons_succ, i64_w, i32_w]
                    rfl
                  refine pure_ (i := 6) (N := some 33) (v := ?_) (a' := ?_) #[false, true, true, true, false, true, true, false, false, false] rfl rfl (any_of HT_.out (by kernel_rfl)) (fun _ _ _ h => h) (Or.inl ⟨by rfl, ?_⟩) ?_ ?_
                  rotate_left
                  · intro w'
                    go_simp
                    with_reducible rfl
                  rotate_left
                  · simp only [Act.put, List.setIfInBounds_toArray, List.set_cons_zero, List.set_cons_succ, i64_w, i32_w]
                    rfl
                  refine pure_ (i := 7) (N := some 34) (v := ?_) (a' := ?_) #[false, true, true, true, false, true, true, true, false, false] rfl rfl (any_of HT_.out (by kernel_rfl)) (fun _ _ _ h => h) (Or.inl ⟨by rfl, ?_⟩) ?_ ?_
                  rotate_left
                  · intro w'
                    go_simp
                    with_reducible rfl
                  rotate_left
                  · simp only [Act.put, List.setIfInBounds_toArray, List.set_cons_zero, List.set_cons_succ, i64_w, i32_w]
                    rfl
                  refine one_ (i := 0) (N := some 27) #[true, true, true, true, false, true, true, true, false, false] rfl rfl (one_of HT_.out (by kernel_rfl)) (by decide) (fun K hK => ?_)
                  refine Kd.R_lit_step k29 _ 29 ?hg (N := 27) ?hd (xs := ([] : List (S29))) (inner := []) (ok := fun _ => True) (okp := fun _ => True) ?hr ?hp (fun _ hk => hk) trivial (Below.refl _ _) (Nat.le_refl _) (by simp) ?_; (case hd => rfl); (case hg => rfl); (case hr => first | (go_simp; done) | (go_simp; rfl)); (case hp => exact (Reps.none _ _))
                  intro v177 w20 ho21 hb hg_ hnew_
                  clear hg_ hnew_
                  (first | rw [← Ny176.out] at ho21 | (simp only [Int.reduceToNat] at ho21; rw [← Ny176.out] at ho21))
                  have n0_ := Aside0.mk (Kd.R_lower ho21 (below_size (by repeat (first | (with_reducible first | exact HB.out | apply below_alloc | apply pw_below_drewN | apply below_drew1) | exact HB.out))))
                  have n1_ := Aside0.mk (below_step (by repeat (first | (with_reducible first | exact HB.out | apply below_alloc | apply pw_below_drewN | apply below_drew1) | exact HB.out)) hb)
                  clear HB
                  have HO178 := n0_
                  have HB := n1_
                  clear n0_ n1_
                  clear hb ho21
                  refine hK.out _ _ trivial (fun hHeld => ?_)
                  clear hK K
                  refine norm_ (a' := ?_) ?_ ?_
                  rotate_left
                  · show Act.put _ (some 27) _ = _
                    simp only [Act.put, List.setIfInBounds_toArray, List.set_cons_zero, List.set_cons_succ, i64_w, i32_w]
                    rfl
                  refine one_ (i := 4) (N := some 31) #[true, true, true, true, true, true, true, true, false, false] rfl rfl (one_of HT_.out (by kernel_rfl)) (by decide) (fun K hK => ?_)
                  refine Kd.R_append_rows_step k29 (w0 := w) w.heap.size (by rfl) (.tmp 27) (.tmp 30) 22 29 (.agg #[(.bool false), (.bool false), (.bool false)]) 3 rfl Try.underlying22 info29 rfl (by decide) (by omega) v177 y176 y179 _ _ _ (fun _ => True) (fun _ => False) rfl rfl ?aO ?aR (fun _ _ h => h) (fun _ h => h.elim) ?aF ?aB ?aS ?aL ?_
                  (case aR => repeat (first | exact (Kd.C_below HR182.out HB.out) | (with_reducible refine Kd.C_alloc ?_ _) | (with_reducible refine Kd.C_drewN ?_ _) | (with_reducible refine Kd.C_drew ?_)))
                  (case aB => exact (by repeat (first | (with_reducible first | exact HB.out | apply below_alloc | apply pw_below_drewN | apply below_drew1) | exact HB.out)))
                  (case aF => exact (fun _ _ => trivial))
                  (case aO => exact (by (with_reducible repeat (first | apply Kd.R_alloc | apply Kd.R_drewN | apply Kd.R_drew)); exact HO178.out))
                  (case aS => exact (below_size (by repeat (first | (with_reducible first | exact HB.out | apply below_alloc | apply pw_below_drewN | apply below_drew1) | exact HB.out))))
                  (case aL => have := LMc13.out; omega)
                  intro v184 w22 ho hb hg hat
                  rw [← Ny183.out] at ho
                  have n0_ := Aside0.mk (hb)
                  have n1_ := Aside0.mk (ho)
                  clear HB
                  clear HO178
                  have HB := n0_
                  have HO185 := n1_
                  clear n0_ n1_
                  clear ho hb hg hat
                  refine hK.out _ _ trivial (fun hHeld => ?_)
                  clear hK K
                  refine norm_ (a' := ?_) ?_ ?_
                  rotate_left
                  · show Act.put _ (some 31) _ = _
                    simp only [Act.put, List.setIfInBounds_toArray, List.set_cons_zero, List.set_cons_succ, i64_w, i32_w]
                    rfl
                  refine one_ (i := 8) (N := some 35) #[true, true, true, true, true, true, true, true, true, false] rfl rfl (one_of HT_.out (by kernel_rfl)) (by decide) (fun K hK => ?_)
                  refine Kd.R_append_rows_step k29 (w0 := w) w.heap.size (by rfl) (.tmp 31) (.tmp 34) 22 29 (.agg #[(.bool false), (.bool false), (.bool false)]) 3 rfl Try.underlying22 info29 rfl (by decide) (by omega) v184 y183 y186 _ _ _ (fun _ => True) (fun _ => False) rfl rfl ?aO ?aR (fun _ _ h => h) (fun _ h => h.elim) ?aF ?aB ?aS ?aL ?_
                  (case aR => repeat (first | exact (Kd.C_below HR189.out HB.out) | (with_reducible refine Kd.C_alloc ?_ _) | (with_reducible refine Kd.C_drewN ?_ _) | (with_reducible refine Kd.C_drew ?_)))
                  (case aB => exact (by repeat (first | (with_reducible first | exact HB.out | apply below_alloc | apply pw_below_drewN | apply below_drew1) | exact HB.out)))
                  (case aF => exact (fun _ _ => trivial))
                  (case aO => exact (by (with_reducible repeat (first | apply Kd.R_alloc | apply Kd.R_drewN | apply Kd.R_drew)); exact HO185.out))
                  (case aS => exact (below_size (by repeat (first | (with_reducible first | exact HB.out | apply below_alloc | apply pw_below_drewN | apply below_drew1) | exact HB.out))))
                  (case aL => have := LMc16.out; omega)
                  intro v191 w23 ho hb hg hat
                  rw [← Ny190.out] at ho
                  have n0_ := Aside0.mk (hb)
                  have n1_ := Aside0.mk (ho)
                  clear HB
                  clear HO185
                  have HB := n0_
                  have HO192 := n1_
                  clear n0_ n1_
                  clear ho hb hg hat
                  refine hK.out _ _ trivial (fun hHeld => ?_)
                  clear hK K
                  refine norm_ (a' := ?_) ?_ ?_
                  rotate_left
                  · show Act.put _ (some 35) _ = _
                    simp only [Act.put, List.setIfInBounds_toArray, List.set_cons_zero, List.set_cons_succ, i64_w, i32_w]
                    rfl
                  refine pure_ (i := 9) (N := some 9) (v := ?_) (a' := ?_) #[true, true, true, true, true, true, true, true, true, true] rfl rfl (any_of HT_.out (by kernel_rfl)) (fun _ _ _ h => h) (Or.inl ⟨by rfl, ?_⟩) ?_ ?_
                  rotate_left
                  · intro w'
                    go_simp
                    with_reducible rfl
                  rotate_left
                  · simp only [Act.put, List.setIfInBounds_toArray, List.set_cons_zero, List.set_cons_succ, i64_w, i32_w]
                    rfl
                  refine done_ (done_of HT_.out (by kernel_rfl)) ?_
                  try go_wp2
                  go_loopg [10] kj4 (fun kq v10 w' => ∃ (x9_2 : List (S29)) (x10_2 : Int), v10 = .int .i64 x10_2 ∧ Aside0 (watchkeeperlaw13_VoteTurns.l0 kq a0 l1 t175 x9_2 x10_2 = some r) ∧ Aside0 (kq ≤ kj4) ∧ Aside0 (Kd.R k29 29 w' w.heap.size (fun _ => True) v191 x9_2) ∧ Aside0 (Below w.heap.size w w'))
                  case atStart => exact ⟨(y190), (0), (by first | rfl | (simp; done) | (simp [*]; done)), H', ⟨Nat.le_refl _⟩, ⟨by (with_reducible repeat (first | apply Kd.R_alloc | apply Kd.R_drewN | apply Kd.R_drew)); exact HO192.out⟩, ⟨by repeat (first | (with_reducible first | exact HB.out | apply below_alloc | apply pw_below_drewN | apply below_drew1) | exact HB.out)⟩⟩
                  case round =>
                    clear H'
                    try clear c1
                    try clear q1
                    try clear p2
                    try clear c5
                    try clear p6
                    try clear c7
                    try clear c7b0
                    try clear c7b1
                    try clear c8
                    try clear c9
                    try clear c9b0
                    try clear c9b1
                    try clear c9b2
                    try clear c11
                    try clear c11b0
                    try clear c11b1
                    try clear c12
                    try clear c12b0
                    try clear c12b1
                    try clear c13
                    try clear c14
                    try clear c14b0
                    try clear c15
                    try clear c15b0
                    try clear c16
                    try clear c18
                    try clear q18
                    try clear q19
                    try clear p2
                    try clear q018
                    try clear q18
                    try clear q19
                    obtain ⟨x9_2, x10_2, rfl, HA, HK2, HO_9, HB⟩ := hrel
                    cases gk with
                    | zero => exact absurd HA.out (by simp [watchkeeperlaw13_VoteTurns.l0])
                    | succ k2 =>
                      have H := HA.out
                      clear HA
                      simp only [watchkeeperlaw13_VoteTurns.l0] at H
                      by_cases c24 : (wrap64 (x10_2 + 1)) < (x9_2.length : Int)
                      · rw [if_pos c24] at H
                        have c24b0 : decide ((wrap64 (x10_2 + 1)) < (x9_2.length : Int)) = true := decide_eq_true c24
                        clear c24
                        by_cases c25 : 0 ≤ x10_2
                        · rw [if_pos c25] at H
                          have c25b0 : decide (0 ≤ x10_2) = true := decide_eq_true c25
                          clear c25
                          by_cases c26 : x10_2 < (x9_2.length : Int)
                          · rw [if_pos c26] at H
                            have c26b0 : decide (x10_2 < (x9_2.length : Int)) = true := decide_eq_true c26
                            clear c26
                            obtain ⟨ji27, hji27⟩ : ∃ j_ : Int, (wrap64 (x10_2 + 1)) = j_ := ⟨_, rfl⟩
                            replace H : (if 0 ≤ (ji27) then (watchkeeperlaw13_VoteTurns.l0 k2 a0 l1 t175 ((x9_2.set (x10_2 : Int).toNat (⟨(rd_T29 x9_2 (ji27)).f0, (rd_T29 x9_2 (ji27)).f1, (rd_T29 x9_2 (ji27)).f2⟩ : S29)).set ((ji27) : Int).toNat (⟨(rd_T29 x9_2 x10_2).f0, (rd_T29 x9_2 x10_2).f1, (rd_T29 x9_2 x10_2).f2⟩ : S29)) (wrap64 (x10_2 + 2))) else (none)) = some r := by first | (rw [hji27] at H; exact H) | (simp only [hji27] at H ⊢; exact H)
                            (try rw [hji27] at c24b0)
                            have hji27w : (IntKind.i64.wrap (x10_2 + 1)) = ji27 := (i64_w _).trans hji27
                            by_cases c28 : 0 ≤ (ji27)
                            · rw [if_pos c28] at H
                              have c28b0 : decide (0 ≤ (ji27)) = true := decide_eq_true c28
                              clear c28
                              obtain ⟨y196, hy196⟩ : ∃ y_ : List (S29), y_ = (x9_2.set (x10_2 : Int).toNat (⟨(rd_T29 x9_2 (ji27)).f0, (rd_T29 x9_2 (ji27)).f1, (rd_T29 x9_2 (ji27)).f2⟩ : S29)) := ⟨_, rfl⟩
                              replace H : (watchkeeperlaw13_VoteTurns.l0 k2 a0 l1 t175 (y196.set ((ji27) : Int).toNat (⟨(rd_T29 x9_2 x10_2).f0, (rd_T29 x9_2 x10_2).f1, (rd_T29 x9_2 x10_2).f2⟩ : S29)) (wrap64 (x10_2 + 2))) = some r := by first | (rw [hy196]; with_reducible exact H) | (have H2_ := (Option.bind_some _ _).symm.trans H; rw [hy196]; with_reducible exact H2_) | (have H2_ := (Option.bind_some _ _).symm.trans H; with_reducible exact H2_) | with_reducible exact H | (rw [hy196]; exact H) | exact H
                              have Ny196 := Aside0.mk hy196
                              clear hy196
                              obtain ⟨y197, hy197⟩ : ∃ y_ : List (S29), y_ = (y196.set ((ji27) : Int).toNat (⟨(rd_T29 x9_2 x10_2).f0, (rd_T29 x9_2 x10_2).f1, (rd_T29 x9_2 x10_2).f2⟩ : S29)) := ⟨_, rfl⟩
                              replace H : (watchkeeperlaw13_VoteTurns.l0 k2 a0 l1 t175 y197 (wrap64 (x10_2 + 2))) = some r := by first | (rw [hy197]; with_reducible exact H) | (have H2_ := (Option.bind_some _ _).symm.trans H; rw [hy197]; with_reducible exact H2_) | (have H2_ := (Option.bind_some _ _).symm.trans H; with_reducible exact H2_) | with_reducible exact H | (rw [hy197]; exact H) | exact H
                              have Ny197 := Aside0.mk hy197
                              clear hy197
                              have H' := Aside0.mk H
                              clear H
                              obtain ⟨Ao31, co31, eo31⟩ := Kd.R_slice HO_9.out
                              subst eo31
                              have p193 : 0 ≤ (x10_2 : Int) := of_decide_eq_true (by first | (with_reducible assumption) | assumption)
                              have q193 : x10_2 < (x9_2.length : Int) := of_decide_eq_true (by first | (with_reducible assumption) | assumption)
                              obtain ⟨ad193, e193, hx193_0, hx193_1, hx193_2⟩ := at_T29 (Kd.R_reads' HO_9.out).2.2 x10_2 p193 q193
                              cases e193
                              replace p193 := eq_true p193
                              replace q193 := eq_true q193
                              go_wp2_with (first | ((with_reducible refine gate_dst (N := 11) rfl ?_); (try (refine gate_guard (by rfl) ?_; dsimp only)); refine box_event ?hg (N := 11) ?hd (cs := #[.bool false, .bool false, .bool false]) (t := 29) ?hr ?_; (case hd => rfl); (case hg => rfl); (case hr => first | (go_simp; done) | (go_simp; rfl)); intro gb194 hg w32 hbox hb; have n0_ := Aside0.mk (Kd.R_below (Kd.R_elderB (by (with_reducible repeat (first | apply Kd.R_alloc | apply Kd.R_drewN | apply Kd.R_drew)); exact HO_9.out) gb194 (Nat.le_of_eq hg.symm)) hb); have n1_ := Aside0.mk (below_step (by repeat (first | (with_reducible first | exact HB.out | apply below_alloc | apply pw_below_drewN | apply below_drew1) | exact HB.out)) hb); have n2_ := Aside0.mk (hbox); have n3_ := Aside0.mk ((by rw [hg]; exact (below_size (by repeat (first | (with_reducible first | exact HB.out | apply below_alloc | apply pw_below_drewN | apply below_drew1) | exact HB.out))) : w.heap.size ≤ gb194)); have n4_ := Aside0.mk ((by rw [hg]; exact (below_size (by repeat (first | (with_reducible first | exact HB.out | apply below_alloc | apply pw_below_drewN | apply below_drew1) | exact HB.out))) : w.heap.size ≤ gb194)); clear HO_9; clear HB; have HO_9 := n0_; have HB := n1_; have BK194 := n2_; have GW194 := n3_; have GE194 := n4_; clear n0_ n1_ n2_ n3_ n4_; clear hb hbox hg; have hcz33_0 : w32.cell? ⟨gb194, 0, none⟩ = some (.bool false) := (blk_cell BK194.out 0).trans rfl; have hcz33_1 : w32.cell? ⟨gb194, 1, none⟩ = some (.bool false) := (blk_cell BK194.out 1).trans rfl; have hcz33_2 : w32.cell? ⟨gb194, 2, none⟩ = some (.bool false) := (blk_cell BK194.out 2).trans rfl; have hfz33_0 := blk_frozen BK194.out 0; have hfz33_1 := blk_frozen BK194.out 1; have hfz33_2 := blk_frozen BK194.out 2) | ((with_reducible refine gate_store (t := 29) (p := 11) rfl ?_); refine store_event (t := 29) (p := 11) (v := ?vo_w34) (w1 := (((w32.setCell ⟨gb194, 0, none⟩ (.bool ((rd_T29 x9_2 x10_2).f0))).setCell ⟨gb194, 1, none⟩ (.bool ((rd_T29 x9_2 x10_2).f1))).setCell ⟨gb194, 2, none⟩ (.bool ((rd_T29 x9_2 x10_2).f2)))) ?hg ?ho ?hn ?hr ?_; (case ho => rfl); (case hg => rfl); (case hn => rfl); (case hr => first | (go_simp; done) | (go_simp; rfl)); intro w34 hw; have n0_ : Aside0 (Kd.R k29 29 w34 w.heap.size (fun k_ => k_ ≠ gb194) (.slice (some ad193) x9_2.length co31) x9_2) := ⟨(by rw [hw]; exact (by (with_reducible repeat (first | apply Kd.R_alloc | apply Kd.R_drewN | apply Kd.R_drew)); exact Kd.R_mono (Kd.R_far (p := ⟨gb194, 2, none⟩) (Kd.R_far (p := ⟨gb194, 1, none⟩) (Kd.R_far (p := ⟨gb194, 0, none⟩) (Kd.R_mono HO_9.out (fun k_ hk => (⟨hk, hk.2⟩ : _ ∧ k_ ≠ gb194))) (fun _ hk => hk.2) (.bool ((rd_T29 x9_2 x10_2).f0))) (fun _ hk => hk.2) (.bool ((rd_T29 x9_2 x10_2).f1))) (fun _ hk => hk.2) (.bool ((rd_T29 x9_2 x10_2).f2))) (fun _ hk => hk.1.2)))⟩; have n1_ : Aside0 (w34.heap[gb194]? = some (.cells #[.bool ((rd_T29 x9_2 x10_2).f0), .bool ((rd_T29 x9_2 x10_2).f1), .bool ((rd_T29 x9_2 x10_2).f2)] 29 (0, 0))) := ⟨(by rw [hw]; exact (by (with_reducible repeat (first | refine blk_drewN ?_ _ | refine blk_drew ?_ | refine blk_alloc ?_ _)); refine blk_put (cs := #[.bool ((rd_T29 x9_2 x10_2).f0), .bool ((rd_T29 x9_2 x10_2).f1), .bool false]) ?_ 2 _ rfl; (with_reducible repeat (first | refine blk_drewN ?_ _ | refine blk_drew ?_ | refine blk_alloc ?_ _)); refine blk_put (cs := #[.bool ((rd_T29 x9_2 x10_2).f0), .bool false, .bool false]) ?_ 1 _ rfl; (with_reducible repeat (first | refine blk_drewN ?_ _ | refine blk_drew ?_ | refine blk_alloc ?_ _)); refine blk_put (cs := #[.bool false, .bool false, .bool false]) ?_ 0 _ rfl; (with_reducible repeat (first | refine blk_drewN ?_ _ | refine blk_drew ?_ | refine blk_alloc ?_ _)); exact BK194.out))⟩; have n2_ : Aside0 (Below w.heap.size w w34) := ⟨(by rw [hw]; exact (by repeat (first | (with_reducible first | exact HB.out | apply below_alloc | apply pw_below_drewN | apply below_drew1 | refine below_set ?_ GE194.out) | exact HB.out)))⟩; clear hw; clear HO_9; clear BK194; clear HB; have HO_9 := n0_; have BK194 := n1_; have HB := n2_; clear n0_ n1_ n2_; have p195 : 0 ≤ ((ji27) : Int) := of_decide_eq_true (by first | (with_reducible assumption) | assumption); have q195 : (ji27) < (x9_2.length : Int) := of_decide_eq_true (by first | (with_reducible assumption) | assumption); obtain ⟨ad195, e195, hx195_0, hx195_1, hx195_2⟩ := at_T29 (Kd.R_reads' HO_9.out).2.2 (ji27) p195 q195; obtain rfl : ad193 = ad195 := (by injection e195); replace p195 := eq_true p195; replace q195 := eq_true q195; have p29 : 0 ≤ (x10_2 : Int) := of_decide_eq_true (by first | (with_reducible assumption) | assumption); have q29 : (x10_2 : Int) < ((x9_2.length : Int) : Int) := of_decide_eq_true (by first | (with_reducible assumption) | assumption); obtain ⟨go29, co29, eo29, gb29, gl29, cl29, HG29⟩ := Kd.R_form HO_9.out (by omega); (first | cases eo29 | (injection eo29 with ea_ en_ ec_; (first | subst ea_ | (injection ea_ with ea_; subst ea_)); subst ec_; clear en_)); have GB29 := Aside0.mk gb29; have GG29 := Aside0.mk HG29; clear gb29 gl29 HG29; (first | simp only [add_plain] at hx193_0 | skip); (first | simp only [add_plain] at hx193_1 | skip); (first | simp only [add_plain] at hx193_2 | skip); (first | simp only [add_plain] at hx195_0 | skip); (first | simp only [add_plain] at hx195_1 | skip); (first | simp only [add_plain] at hx195_2 | skip); obtain ⟨ce29, hcl29, hM29, hcc29, hfr29⟩ := Kd.R_elem HO_9.out z29 (x10_2 : Int) p29 q29; obtain rfl := k29_openM hM29; have hx29_0 : w34.cell? ⟨go29, (x10_2 : Int).toNat * 3, none⟩ = some (.bool ((rd_T29 x9_2 x10_2).f0)) := hcc29 0 _ rfl; have hx29_1 : w34.cell? ⟨go29, (x10_2 : Int).toNat * 3 + 1, none⟩ = some (.bool ((rd_T29 x9_2 x10_2).f1)) := hcc29 1 _ rfl; have hx29_2 : w34.cell? ⟨go29, (x10_2 : Int).toNat * 3 + 2, none⟩ = some (.bool ((rd_T29 x9_2 x10_2).f2)) := hcc29 2 _ rfl; have hf29_0 : w34.frozen? ⟨go29, (x10_2 : Int).toNat * 3, none⟩ = false := hfr29 0; have hf29_1 : w34.frozen? ⟨go29, (x10_2 : Int).toNat * 3 + 1, none⟩ = false := hfr29 1; have hf29_2 : w34.frozen? ⟨go29, (x10_2 : Int).toNat * 3 + 2, none⟩ = false := hfr29 2; clear hcl29 hcc29 hfr29 hM29; replace p29 := eq_true p29; replace q29 := eq_true q29; have HX35 := Aside0.mk (show Kd.R k29 29 w34 w.heap.size (fun k_ => k_ ≠ gb194) (.slice (some ⟨go29, 0, none⟩) x9_2.length co31) x9_2 from (by (with_reducible repeat (first | apply Kd.R_alloc | apply Kd.R_drewN | apply Kd.R_drew)); exact HO_9.out)); obtain ⟨ce35, hcl35, hM35, hcc35, hfr35⟩ := Kd.R_elem HX35.out z29 (x10_2 : Int) (of_decide_eq_true (by first | (with_reducible assumption) | assumption)) (by have h_ : (x10_2 : Int) < ((x9_2.length : Int) : Int) := of_decide_eq_true (by first | (with_reducible assumption) | assumption); first | exact h_ | (have e_ := (Kd.R_reads' HO_9.out).1; omega) | simpa using h_); obtain rfl := k29_openM hM35; have HP35 := Kd.R_seg HX35.out (x10_2 : Int) (of_decide_eq_true (by first | (with_reducible assumption) | assumption)) (by have h_ : (x10_2 : Int) < ((x9_2.length : Int) : Int) := of_decide_eq_true (by first | (with_reducible assumption) | assumption); first | exact h_ | (have e_ := (Kd.R_reads' HO_9.out).1; omega) | simpa using h_) (seg := [.bool ((rd_T29 x9_2 (ji27)).f0), .bool ((rd_T29 x9_2 (ji27)).f1), .bool ((rd_T29 x9_2 (ji27)).f2)]) (j := 0) hcl35 hcc35 (show 3 ≤ 3 from by decide) (x' := (⟨(rd_T29 x9_2 (ji27)).f0, (rd_T29 x9_2 (ji27)).f1, (rd_T29 x9_2 (ji27)).f2⟩ : S29)) (k29_mkM _ _ _ (⟨(rd_T29 x9_2 (ji27)).f0, (rd_T29 x9_2 (ji27)).f1, (rd_T29 x9_2 (ji27)).f2⟩ : S29) ) (fun _ hk => hk); have hx35_0 := hcc35 0 _ rfl; (try simp only [show (k29).sz = 3 from rfl, Nat.mul_one, Nat.add_zero] at hx35_0); have hf35_0 := hfr35 0; (try simp only [show (k29).sz = 3 from rfl, Nat.mul_one, Nat.add_zero] at hf35_0); have hx35_1 := hcc35 1 _ rfl; (try simp only [show (k29).sz = 3 from rfl, Nat.mul_one, Nat.add_zero] at hx35_1); have hf35_1 := hfr35 1; (try simp only [show (k29).sz = 3 from rfl, Nat.mul_one, Nat.add_zero] at hf35_1); have hx35_2 := hcc35 2 _ rfl; (try simp only [show (k29).sz = 3 from rfl, Nat.mul_one, Nat.add_zero] at hx35_2); have hf35_2 := hfr35 2; (try simp only [show (k29).sz = 3 from rfl, Nat.mul_one, Nat.add_zero] at hf35_2); clear hcl35 hcc35 hfr35 hM35) | ((with_reducible refine gate_store (t := 29) (p := 54) rfl ?_); refine store_event (t := 29) (p := 54) (v := ?vo_w36) (w1 := (((w34.setCell ⟨go29, (x10_2 : Int).toNat * 3, none⟩ (.bool ((rd_T29 x9_2 (ji27)).f0))).setCell ⟨go29, (x10_2 : Int).toNat * 3 + 1, none⟩ (.bool ((rd_T29 x9_2 (ji27)).f1))).setCell ⟨go29, (x10_2 : Int).toNat * 3 + 2, none⟩ (.bool ((rd_T29 x9_2 (ji27)).f2)))) ?hg ?ho ?hn ?hr ?_; (case ho => rfl); (case hg => rfl); (case hn => rfl); (case hr => first | (go_simp; done) | (go_simp; rfl)); intro w36 hw; have hg : w34.grownBy w36 (some go29) := (by rw [hw]; exact HP35.2); have hp_ : Kd.R k29 29 w36 w.heap.size (fun k_ => k_ ≠ gb194) (.slice (some ⟨go29, 0, none⟩) x9_2.length co31) y196 := (by rw [hw, Ny196.out]; exact HP35.1); clear HP35; have n0_ := Aside0.mk (hp_); have n1_ := Aside0.mk (blk_grown (g := gb194) (o := .cells #[.bool ((rd_T29 x9_2 x10_2).f0), .bool ((rd_T29 x9_2 x10_2).f1), .bool ((rd_T29 x9_2 x10_2).f2)] 29 (0, 0)) (by (with_reducible repeat (first | refine blk_drewN ?_ _ | refine blk_drew ?_ | refine blk_alloc ?_ _)); exact BK194.out) hg (Kd.R_away HO_9.out (fun _ hk => hk))); have n2_ := Aside0.mk ((by rw [hw]; exact below_set (below_set (below_set (HB.out) GB29.out) GB29.out) GB29.out : Below w.heap.size w w36)); clear HO_9; clear BK194; clear HB; have HO_9 := n0_; have BK194 := n1_; have HB := n2_; clear n0_ n1_ n2_; clear hg hw hp_; have hcz37_0 : w36.cell? ⟨gb194, 0, none⟩ = some (.bool ((rd_T29 x9_2 x10_2).f0)) := (blk_cell BK194.out 0).trans rfl; have hcz37_1 : w36.cell? ⟨gb194, 1, none⟩ = some (.bool ((rd_T29 x9_2 x10_2).f1)) := (blk_cell BK194.out 1).trans rfl; have hcz37_2 : w36.cell? ⟨gb194, 2, none⟩ = some (.bool ((rd_T29 x9_2 x10_2).f2)) := (blk_cell BK194.out 2).trans rfl; have hfz37_0 := blk_frozen BK194.out 0; have hfz37_1 := blk_frozen BK194.out 1; have hfz37_2 := blk_frozen BK194.out 2; have p30 : 0 ≤ ((ji27) : Int) := of_decide_eq_true (by first | (with_reducible assumption) | assumption); have q30 : ((ji27) : Int) < ((x9_2.length : Int) : Int) := of_decide_eq_true (by first | (with_reducible assumption) | assumption); obtain ⟨ce30, hcl30, hM30, hcc30, hfr30⟩ := Kd.R_elem HO_9.out z29 ((ji27) : Int) p30 q30; obtain rfl := k29_openM hM30; have hx30_0 : w36.cell? ⟨go29, ((ji27) : Int).toNat * 3, none⟩ = some (.bool ((rd_T29 y196 (ji27)).f0)) := hcc30 0 _ rfl; have hx30_1 : w36.cell? ⟨go29, ((ji27) : Int).toNat * 3 + 1, none⟩ = some (.bool ((rd_T29 y196 (ji27)).f1)) := hcc30 1 _ rfl; have hx30_2 : w36.cell? ⟨go29, ((ji27) : Int).toNat * 3 + 2, none⟩ = some (.bool ((rd_T29 y196 (ji27)).f2)) := hcc30 2 _ rfl; have hf30_0 : w36.frozen? ⟨go29, ((ji27) : Int).toNat * 3, none⟩ = false := hfr30 0; have hf30_1 : w36.frozen? ⟨go29, ((ji27) : Int).toNat * 3 + 1, none⟩ = false := hfr30 1; have hf30_2 : w36.frozen? ⟨go29, ((ji27) : Int).toNat * 3 + 2, none⟩ = false := hfr30 2; clear hcl30 hcc30 hfr30 hM30; replace p30 := eq_true p30; replace q30 := eq_true q30; have HX38 := Aside0.mk (show Kd.R k29 29 w36 w.heap.size (fun k_ => k_ ≠ gb194) (.slice (some ⟨go29, 0, none⟩) x9_2.length co31) y196 from (by (with_reducible repeat (first | apply Kd.R_alloc | apply Kd.R_drewN | apply Kd.R_drew)); exact HO_9.out)); obtain ⟨ce38, hcl38, hM38, hcc38, hfr38⟩ := Kd.R_elem HX38.out z29 ((ji27) : Int) (of_decide_eq_true (by first | (with_reducible assumption) | assumption)) (by have h_ : ((ji27) : Int) < ((x9_2.length : Int) : Int) := of_decide_eq_true (by first | (with_reducible assumption) | assumption); first | exact h_ | (have e_ := (Kd.R_reads' HO_9.out).1; omega) | simpa using h_); obtain rfl := k29_openM hM38; have HP38 := Kd.R_seg HX38.out ((ji27) : Int) (of_decide_eq_true (by first | (with_reducible assumption) | assumption)) (by have h_ : ((ji27) : Int) < ((x9_2.length : Int) : Int) := of_decide_eq_true (by first | (with_reducible assumption) | assumption); first | exact h_ | (have e_ := (Kd.R_reads' HO_9.out).1; omega) | simpa using h_) (seg := [.bool ((rd_T29 x9_2 x10_2).f0), .bool ((rd_T29 x9_2 x10_2).f1), .bool ((rd_T29 x9_2 x10_2).f2)]) (j := 0) hcl38 hcc38 (show 3 ≤ 3 from by decide) (x' := (⟨(rd_T29 x9_2 x10_2).f0, (rd_T29 x9_2 x10_2).f1, (rd_T29 x9_2 x10_2).f2⟩ : S29)) (k29_mkM _ _ _ (⟨(rd_T29 x9_2 x10_2).f0, (rd_T29 x9_2 x10_2).f1, (rd_T29 x9_2 x10_2).f2⟩ : S29) ) (fun _ hk => hk); have hx38_0 := hcc38 0 _ rfl; (try simp only [show (k29).sz = 3 from rfl, Nat.mul_one, Nat.add_zero] at hx38_0); have hf38_0 := hfr38 0; (try simp only [show (k29).sz = 3 from rfl, Nat.mul_one, Nat.add_zero] at hf38_0); have hx38_1 := hcc38 1 _ rfl; (try simp only [show (k29).sz = 3 from rfl, Nat.mul_one, Nat.add_zero] at hx38_1); have hf38_1 := hfr38 1; (try simp only [show (k29).sz = 3 from rfl, Nat.mul_one, Nat.add_zero] at hf38_1); have hx38_2 := hcc38 2 _ rfl; (try simp only [show (k29).sz = 3 from rfl, Nat.mul_one, Nat.add_zero] at hx38_2); have hf38_2 := hfr38 2; (try simp only [show (k29).sz = 3 from rfl, Nat.mul_one, Nat.add_zero] at hf38_2); clear hcl38 hcc38 hfr38 hM38) | ((with_reducible refine gate_store (t := 29) (p := 59) rfl ?_); refine store_event (t := 29) (p := 59) (v := ?vo_w39) (w1 := (((w36.setCell ⟨go29, ((ji27) : Int).toNat * 3, none⟩ (.bool ((rd_T29 x9_2 x10_2).f0))).setCell ⟨go29, ((ji27) : Int).toNat * 3 + 1, none⟩ (.bool ((rd_T29 x9_2 x10_2).f1))).setCell ⟨go29, ((ji27) : Int).toNat * 3 + 2, none⟩ (.bool ((rd_T29 x9_2 x10_2).f2)))) ?hg ?ho ?hn ?hr ?_; (case ho => rfl); (case hg => rfl); (case hn => rfl); (case hr => first | (go_simp; done) | (go_simp; rfl)); intro w39 hw; have hg : w36.grownBy w39 (some go29) := (by rw [hw]; exact HP38.2); have hp_ : Kd.R k29 29 w39 w.heap.size (fun k_ => k_ ≠ gb194) (.slice (some ⟨go29, 0, none⟩) x9_2.length co31) y197 := (by rw [hw, Ny197.out]; exact HP38.1); clear HP38; have n0_ := Aside0.mk (hp_); have n1_ := Aside0.mk (blk_grown (g := gb194) (o := .cells #[.bool ((rd_T29 x9_2 x10_2).f0), .bool ((rd_T29 x9_2 x10_2).f1), .bool ((rd_T29 x9_2 x10_2).f2)] 29 (0, 0)) (by (with_reducible repeat (first | refine blk_drewN ?_ _ | refine blk_drew ?_ | refine blk_alloc ?_ _)); exact BK194.out) hg (Kd.R_away HO_9.out (fun _ hk => hk))); have n2_ := Aside0.mk ((by rw [hw]; exact below_set (below_set (below_set (HB.out) GB29.out) GB29.out) GB29.out : Below w.heap.size w w39)); clear HO_9; clear BK194; clear HB; have HO_9 := n0_; have BK194 := n1_; have HB := n2_; clear n0_ n1_ n2_; clear hg hw hp_))
                              go_roundg k2
                              case measure => have := HJ4.out; have := HK2.out; omega
                              case rel => exact ⟨(y197), (wrap64 (x10_2 + 2)), (by first | rfl | (simp; done) | (simp [*]; done)), H', ⟨by have := HJ4.out; have := HK2.out; omega⟩, ⟨by (with_reducible repeat (first | apply Kd.R_alloc | apply Kd.R_drewN | apply Kd.R_drew)); exact Kd.R_mono HO_9.out (fun _ hk => trivial)⟩, ⟨by repeat (first | (with_reducible first | exact HB.out | apply below_alloc | apply pw_below_drewN | apply below_drew1 | refine below_set ?_ GE194.out) | exact HB.out)⟩⟩
                            · rw [if_neg c28] at H
                              exact absurd H (by simp)
                          · rw [if_neg c26] at H
                            exact absurd H (by simp)
                        · rw [if_neg c25] at H
                          exact absurd H (by simp)
                      · rw [if_neg c24] at H
                        have c24b0 : decide ((wrap64 (x10_2 + 1)) < (x9_2.length : Int)) = false := decide_eq_false c24
                        clear c24
                        by_cases c40 : t175 = true
                        · subst c40
                          have H1 : ((vote_Trips.f a0 x9_2).bind fun t198 => ((vote_Trips.f a0 l1).bind fun t199 => (if (t198 == t199) = true then ((vote_Yes.f x9_2).bind fun t200 => ((vote_Yes.f l1).bind fun t201 => (if t200 = t201 then ((vote_Need.f a0 x9_2).bind fun t202 => ((vote_Need.f a0 l1).bind fun t203 => (if t202 = t203 then ((vote_Healthy.f a0 x9_2).bind fun t204 => ((vote_Healthy.f a0 l1).bind fun t205 => (some (t204 == t205)))) else (some false)))) else (some false)))) else (some false)))) = some r := by rw [if_pos rfl] at H; exact H
                          clear H
                          have H := H1
                          clear H1
                          replace H := Option.bind_eq_some_iff.mp H
                          obtain ⟨t198, A410, H⟩ := H
                          replace H : ((vote_Trips.f a0 l1).bind fun t199 => (if (t198 == t199) = true then ((vote_Yes.f x9_2).bind fun t200 => ((vote_Yes.f l1).bind fun t201 => (if t200 = t201 then ((vote_Need.f a0 x9_2).bind fun t202 => ((vote_Need.f a0 l1).bind fun t203 => (if t202 = t203 then ((vote_Healthy.f a0 x9_2).bind fun t204 => ((vote_Healthy.f a0 l1).bind fun t205 => (some (t204 == t205)))) else (some false)))) else (some false)))) else (some false))) = some r := H
                          have A41 := Aside0.mk A410
                          clear A410
                          replace H := Option.bind_eq_some_iff.mp H
                          obtain ⟨t199, A420, H⟩ := H
                          replace H : (if (t198 == t199) = true then ((vote_Yes.f x9_2).bind fun t200 => ((vote_Yes.f l1).bind fun t201 => (if t200 = t201 then ((vote_Need.f a0 x9_2).bind fun t202 => ((vote_Need.f a0 l1).bind fun t203 => (if t202 = t203 then ((vote_Healthy.f a0 x9_2).bind fun t204 => ((vote_Healthy.f a0 l1).bind fun t205 => (some (t204 == t205)))) else (some false)))) else (some false)))) else (some false)) = some r := H
                          have A42 := Aside0.mk A420
                          clear A420
                          by_cases c43 : (t198 == t199) = true
                          · rw [if_pos c43] at H
                            have c43b0 : (t198 == t199) = true := c43
                            (try (have c43b1 : decide (t198 = t199) = true := by simpa using c43))
                            (try (have c43b2 : (t198 == t199) = true := by simpa using c43))
                            clear c43
                            replace H := Option.bind_eq_some_iff.mp H
                            obtain ⟨t200, A440, H⟩ := H
                            replace H : ((vote_Yes.f l1).bind fun t201 => (if t200 = t201 then ((vote_Need.f a0 x9_2).bind fun t202 => ((vote_Need.f a0 l1).bind fun t203 => (if t202 = t203 then ((vote_Healthy.f a0 x9_2).bind fun t204 => ((vote_Healthy.f a0 l1).bind fun t205 => (some (t204 == t205)))) else (some false)))) else (some false))) = some r := H
                            have A44 := Aside0.mk A440
                            clear A440
                            replace H := Option.bind_eq_some_iff.mp H
                            obtain ⟨t201, A450, H⟩ := H
                            replace H : (if t200 = t201 then ((vote_Need.f a0 x9_2).bind fun t202 => ((vote_Need.f a0 l1).bind fun t203 => (if t202 = t203 then ((vote_Healthy.f a0 x9_2).bind fun t204 => ((vote_Healthy.f a0 l1).bind fun t205 => (some (t204 == t205)))) else (some false)))) else (some false)) = some r := H
                            have A45 := Aside0.mk A450
                            clear A450
                            by_cases c46 : t200 = t201
                            · rw [if_pos c46] at H
                              have c46b0 : (t200 == t201) = true := beq_iff_eq.mpr c46
                              have c46b1 : (t200 != t201) = false := bne_eq_false_iff_eq.mpr c46
                              clear c46
                              replace H := Option.bind_eq_some_iff.mp H
                              obtain ⟨t202, A470, H⟩ := H
                              replace H : ((vote_Need.f a0 l1).bind fun t203 => (if t202 = t203 then ((vote_Healthy.f a0 x9_2).bind fun t204 => ((vote_Healthy.f a0 l1).bind fun t205 => (some (t204 == t205)))) else (some false))) = some r := H
                              have A47 := Aside0.mk A470
                              clear A470
                              replace H := Option.bind_eq_some_iff.mp H
                              obtain ⟨t203, A480, H⟩ := H
                              replace H : (if t202 = t203 then ((vote_Healthy.f a0 x9_2).bind fun t204 => ((vote_Healthy.f a0 l1).bind fun t205 => (some (t204 == t205)))) else (some false)) = some r := H
                              have A48 := Aside0.mk A480
                              clear A480
                              by_cases c49 : t202 = t203
                              · rw [if_pos c49] at H
                                have c49b0 : (t202 == t203) = true := beq_iff_eq.mpr c49
                                have c49b1 : (t202 != t203) = false := bne_eq_false_iff_eq.mpr c49
                                clear c49
                                replace H := Option.bind_eq_some_iff.mp H
                                obtain ⟨t204, A500, H⟩ := H
                                replace H : ((vote_Healthy.f a0 l1).bind fun t205 => (some (t204 == t205))) = some r := H
                                have A50 := Aside0.mk A500
                                clear A500
                                replace H := Option.bind_eq_some_iff.mp H
                                obtain ⟨t205, A510, H⟩ := H
                                replace H : (some (t204 == t205)) = some r := H
                                have A51 := Aside0.mk A510
                                clear A510
                                obtain rfl := Option.some.inj H
                                obtain ⟨Ao52, co52, eo52⟩ := Kd.R_slice HO_9.out
                                subst eo52
                                go_wp2_with fail
                                (go_at_call 13; (with_reducible refine (vote_Trips.calls a0 _ _ x9_2 t198 _ ?side1 ?side2 A41.out).mono ?_); (case side1 => repeat (first | exact (Kd.R_reads' HO_9.out).2.2 | (with_reducible refine Kd.C_alloc ?_ _) | (with_reducible refine Kd.C_drewN ?_ _) | (with_reducible refine Kd.C_drew ?_))); (case side2 => exact (Kd.R_reads' HO_9.out).2.1); rintro e w53 ⟨rfl, hb⟩; have n0_ := Aside0.mk (Kd.R_below (by (with_reducible repeat (first | apply Kd.R_alloc | apply Kd.R_drewN | apply Kd.R_drew)); exact HO_9.out) hb); have n1_ := Aside0.mk (below_step (by repeat (first | (with_reducible first | exact HB.out | apply below_alloc | apply pw_below_drewN | apply below_drew1) | exact HB.out)) hb); clear HO_9; clear HB; have HO_9 := n0_; have HB := n1_; clear n0_ n1_; (try clear hb); (try clear hb2); (try clear hgn); (try clear hk); (try clear hi))
                                go_wp2_with fail
                                (go_at_call 13; (with_reducible refine (vote_Trips.calls a0 _ _ l1 t199 _ ?side1 ?side2 A42.out).mono ?_); (case side1 => repeat (first | exact (Kd.C_below HR1.out HB.out) | (with_reducible refine Kd.C_alloc ?_ _) | (with_reducible refine Kd.C_drewN ?_ _) | (with_reducible refine Kd.C_drew ?_))); (case side2 => exact HC1.out); rintro e w54 ⟨rfl, hb⟩; have n0_ := Aside0.mk (Kd.R_below (by (with_reducible repeat (first | apply Kd.R_alloc | apply Kd.R_drewN | apply Kd.R_drew)); exact HO_9.out) hb); have n1_ := Aside0.mk (below_step (by repeat (first | (with_reducible first | exact HB.out | apply below_alloc | apply pw_below_drewN | apply below_drew1) | exact HB.out)) hb); clear HO_9; clear HB; have HO_9 := n0_; have HB := n1_; clear n0_ n1_; (try clear hb); (try clear hb2); (try clear hgn); (try clear hk); (try clear hi))
                                go_wp2_with fail
                                (go_at_call 9; (with_reducible refine (vote_Yes.calls _ _ x9_2 t200 _ ?side1 ?side2 A44.out).mono ?_); (case side1 => repeat (first | exact (Kd.R_reads' HO_9.out).2.2 | (with_reducible refine Kd.C_alloc ?_ _) | (with_reducible refine Kd.C_drewN ?_ _) | (with_reducible refine Kd.C_drew ?_))); (case side2 => exact (Kd.R_reads' HO_9.out).2.1); rintro e w55 ⟨rfl, hb⟩; have n0_ := Aside0.mk (Kd.R_below (by (with_reducible repeat (first | apply Kd.R_alloc | apply Kd.R_drewN | apply Kd.R_drew)); exact HO_9.out) hb); have n1_ := Aside0.mk (below_step (by repeat (first | (with_reducible first | exact HB.out | apply below_alloc | apply pw_below_drewN | apply below_drew1) | exact HB.out)) hb); clear HO_9; clear HB; have HO_9 := n0_; have HB := n1_; clear n0_ n1_; (try clear hb); (try clear hb2); (try clear hgn); (try clear hk); (try clear hi))
                                go_wp2_with fail
                                (go_at_call 9; (with_reducible refine (vote_Yes.calls _ _ l1 t201 _ ?side1 ?side2 A45.out).mono ?_); (case side1 => repeat (first | exact (Kd.C_below HR1.out HB.out) | (with_reducible refine Kd.C_alloc ?_ _) | (with_reducible refine Kd.C_drewN ?_ _) | (with_reducible refine Kd.C_drew ?_))); (case side2 => exact HC1.out); rintro e w56 ⟨rfl, hb⟩; have n0_ := Aside0.mk (Kd.R_below (by (with_reducible repeat (first | apply Kd.R_alloc | apply Kd.R_drewN | apply Kd.R_drew)); exact HO_9.out) hb); have n1_ := Aside0.mk (below_step (by repeat (first | (with_reducible first | exact HB.out | apply below_alloc | apply pw_below_drewN | apply below_drew1) | exact HB.out)) hb); clear HO_9; clear HB; have HO_9 := n0_; have HB := n1_; clear n0_ n1_; (try clear hb); (try clear hb2); (try clear hgn); (try clear hk); (try clear hi))
                                go_wp2_with fail
                                (go_at_call 11; (with_reducible refine (vote_Need.calls a0 _ _ x9_2 t202 _ ?side1 ?side2 A47.out).mono ?_); (case side1 => repeat (first | exact (Kd.R_reads' HO_9.out).2.2 | (with_reducible refine Kd.C_alloc ?_ _) | (with_reducible refine Kd.C_drewN ?_ _) | (with_reducible refine Kd.C_drew ?_))); (case side2 => exact (Kd.R_reads' HO_9.out).2.1); rintro e w57 ⟨rfl, hb⟩; have n0_ := Aside0.mk (Kd.R_below (by (with_reducible repeat (first | apply Kd.R_alloc | apply Kd.R_drewN | apply Kd.R_drew)); exact HO_9.out) hb); have n1_ := Aside0.mk (below_step (by repeat (first | (with_reducible first | exact HB.out | apply below_alloc | apply pw_below_drewN | apply below_drew1) | exact HB.out)) hb); clear HO_9; clear HB; have HO_9 := n0_; have HB := n1_; clear n0_ n1_; (try clear hb); (try clear hb2); (try clear hgn); (try clear hk); (try clear hi))
                                go_wp2_with fail
                                (go_at_call 11; (with_reducible refine (vote_Need.calls a0 _ _ l1 t203 _ ?side1 ?side2 A48.out).mono ?_); (case side1 => repeat (first | exact (Kd.C_below HR1.out HB.out) | (with_reducible refine Kd.C_alloc ?_ _) | (with_reducible refine Kd.C_drewN ?_ _) | (with_reducible refine Kd.C_drew ?_))); (case side2 => exact HC1.out); rintro e w58 ⟨rfl, hb⟩; have n0_ := Aside0.mk (Kd.R_below (by (with_reducible repeat (first | apply Kd.R_alloc | apply Kd.R_drewN | apply Kd.R_drew)); exact HO_9.out) hb); have n1_ := Aside0.mk (below_step (by repeat (first | (with_reducible first | exact HB.out | apply below_alloc | apply pw_below_drewN | apply below_drew1) | exact HB.out)) hb); clear HO_9; clear HB; have HO_9 := n0_; have HB := n1_; clear n0_ n1_; (try clear hb); (try clear hb2); (try clear hgn); (try clear hk); (try clear hi))
                                go_wp2_with fail
                                (go_at_call 15; (with_reducible refine (vote_Healthy.calls a0 _ _ x9_2 t204 _ ?side1 ?side2 A50.out).mono ?_); (case side1 => repeat (first | exact (Kd.R_reads' HO_9.out).2.2 | (with_reducible refine Kd.C_alloc ?_ _) | (with_reducible refine Kd.C_drewN ?_ _) | (with_reducible refine Kd.C_drew ?_))); (case side2 => exact (Kd.R_reads' HO_9.out).2.1); rintro e w59 ⟨rfl, hb⟩; have n0_ := Aside0.mk (Kd.R_below (by (with_reducible repeat (first | apply Kd.R_alloc | apply Kd.R_drewN | apply Kd.R_drew)); exact HO_9.out) hb); have n1_ := Aside0.mk (below_step (by repeat (first | (with_reducible first | exact HB.out | apply below_alloc | apply pw_below_drewN | apply below_drew1) | exact HB.out)) hb); clear HO_9; clear HB; have HO_9 := n0_; have HB := n1_; clear n0_ n1_; (try clear hb); (try clear hb2); (try clear hgn); (try clear hk); (try clear hi))
                                go_wp2_with fail
                                (go_at_call 15; (with_reducible refine (vote_Healthy.calls a0 _ _ l1 t205 _ ?side1 ?side2 A51.out).mono ?_); (case side1 => repeat (first | exact (Kd.C_below HR1.out HB.out) | (with_reducible refine Kd.C_alloc ?_ _) | (with_reducible refine Kd.C_drewN ?_ _) | (with_reducible refine Kd.C_drew ?_))); (case side2 => exact HC1.out); rintro e w60 ⟨rfl, hb⟩; have n0_ := Aside0.mk (Kd.R_below (by (with_reducible repeat (first | apply Kd.R_alloc | apply Kd.R_drewN | apply Kd.R_drew)); exact HO_9.out) hb); have n1_ := Aside0.mk (below_step (by repeat (first | (with_reducible first | exact HB.out | apply below_alloc | apply pw_below_drewN | apply below_drew1) | exact HB.out)) hb); clear HO_9; clear HB; have HO_9 := n0_; have HB := n1_; clear n0_ n1_; (try clear hb); (try clear hb2); (try clear hgn); (try clear hk); (try clear hi))
                                go_wp2_with fail
                                go_ret
                                exact ⟨by first | rfl | (simp [errW_none, errW_some] <;> rfl) | (simp only [← hji10]; first | rfl | (simp [errW_none, errW_some] <;> rfl)) | (simp [*, errW_none, errW_some] <;> rfl), by repeat (first | (with_reducible first | exact HB.out | apply below_alloc | apply pw_below_drewN | apply below_drew1) | exact HB.out)⟩
                              · rw [if_neg c49] at H
                                have c49b0 : (t202 == t203) = false := beq_eq_false_iff_ne.mpr c49
                                have c49b1 : (t202 != t203) = true := bne_iff_ne.mpr c49
                                obtain rfl := Option.some.inj H
                                obtain ⟨Ao61, co61, eo61⟩ := Kd.R_slice HO_9.out
                                subst eo61
                                go_wp2_with fail
                                (go_at_call 13; (with_reducible refine (vote_Trips.calls a0 _ _ x9_2 t198 _ ?side1 ?side2 A41.out).mono ?_); (case side1 => repeat (first | exact (Kd.R_reads' HO_9.out).2.2 | (with_reducible refine Kd.C_alloc ?_ _) | (with_reducible refine Kd.C_drewN ?_ _) | (with_reducible refine Kd.C_drew ?_))); (case side2 => exact (Kd.R_reads' HO_9.out).2.1); rintro e w62 ⟨rfl, hb⟩; have n0_ := Aside0.mk (Kd.R_below (by (with_reducible repeat (first | apply Kd.R_alloc | apply Kd.R_drewN | apply Kd.R_drew)); exact HO_9.out) hb); have n1_ := Aside0.mk (below_step (by repeat (first | (with_reducible first | exact HB.out | apply below_alloc | apply pw_below_drewN | apply below_drew1) | exact HB.out)) hb); clear HO_9; clear HB; have HO_9 := n0_; have HB := n1_; clear n0_ n1_; (try clear hb); (try clear hb2); (try clear hgn); (try clear hk); (try clear hi))
                                go_wp2_with fail
                                (go_at_call 13; (with_reducible refine (vote_Trips.calls a0 _ _ l1 t199 _ ?side1 ?side2 A42.out).mono ?_); (case side1 => repeat (first | exact (Kd.C_below HR1.out HB.out) | (with_reducible refine Kd.C_alloc ?_ _) | (with_reducible refine Kd.C_drewN ?_ _) | (with_reducible refine Kd.C_drew ?_))); (case side2 => exact HC1.out); rintro e w63 ⟨rfl, hb⟩; have n0_ := Aside0.mk (Kd.R_below (by (with_reducible repeat (first | apply Kd.R_alloc | apply Kd.R_drewN | apply Kd.R_drew)); exact HO_9.out) hb); have n1_ := Aside0.mk (below_step (by repeat (first | (with_reducible first | exact HB.out | apply below_alloc | apply pw_below_drewN | apply below_drew1) | exact HB.out)) hb); clear HO_9; clear HB; have HO_9 := n0_; have HB := n1_; clear n0_ n1_; (try clear hb); (try clear hb2); (try clear hgn); (try clear hk); (try clear hi))
                                go_wp2_with fail
                                (go_at_call 9; (with_reducible refine (vote_Yes.calls _ _ x9_2 t200 _ ?side1 ?side2 A44.out).mono ?_); (case side1 => repeat (first | exact (Kd.R_reads' HO_9.out).2.2 | (with_reducible refine Kd.C_alloc ?_ _) | (with_reducible refine Kd.C_drewN ?_ _) | (with_reducible refine Kd.C_drew ?_))); (case side2 => exact (Kd.R_reads' HO_9.out).2.1); rintro e w64 ⟨rfl, hb⟩; have n0_ := Aside0.mk (Kd.R_below (by (with_reducible repeat (first | apply Kd.R_alloc | apply Kd.R_drewN | apply Kd.R_drew)); exact HO_9.out) hb); have n1_ := Aside0.mk (below_step (by repeat (first | (with_reducible first | exact HB.out | apply below_alloc | apply pw_below_drewN | apply below_drew1) | exact HB.out)) hb); clear HO_9; clear HB; have HO_9 := n0_; have HB := n1_; clear n0_ n1_; (try clear hb); (try clear hb2); (try clear hgn); (try clear hk); (try clear hi))
                                go_wp2_with fail
                                (go_at_call 9; (with_reducible refine (vote_Yes.calls _ _ l1 t201 _ ?side1 ?side2 A45.out).mono ?_); (case side1 => repeat (first | exact (Kd.C_below HR1.out HB.out) | (with_reducible refine Kd.C_alloc ?_ _) | (with_reducible refine Kd.C_drewN ?_ _) | (with_reducible refine Kd.C_drew ?_))); (case side2 => exact HC1.out); rintro e w65 ⟨rfl, hb⟩; have n0_ := Aside0.mk (Kd.R_below (by (with_reducible repeat (first | apply Kd.R_alloc | apply Kd.R_drewN | apply Kd.R_drew)); exact HO_9.out) hb); have n1_ := Aside0.mk (below_step (by repeat (first | (with_reducible first | exact HB.out | apply below_alloc | apply pw_below_drewN | apply below_drew1) | exact HB.out)) hb); clear HO_9; clear HB; have HO_9 := n0_; have HB := n1_; clear n0_ n1_; (try clear hb); (try clear hb2); (try clear hgn); (try clear hk); (try clear hi))
                                go_wp2_with fail
                                (go_at_call 11; (with_reducible refine (vote_Need.calls a0 _ _ x9_2 t202 _ ?side1 ?side2 A47.out).mono ?_); (case side1 => repeat (first | exact (Kd.R_reads' HO_9.out).2.2 | (with_reducible refine Kd.C_alloc ?_ _) | (with_reducible refine Kd.C_drewN ?_ _) | (with_reducible refine Kd.C_drew ?_))); (case side2 => exact (Kd.R_reads' HO_9.out).2.1); rintro e w66 ⟨rfl, hb⟩; have n0_ := Aside0.mk (Kd.R_below (by (with_reducible repeat (first | apply Kd.R_alloc | apply Kd.R_drewN | apply Kd.R_drew)); exact HO_9.out) hb); have n1_ := Aside0.mk (below_step (by repeat (first | (with_reducible first | exact HB.out | apply below_alloc | apply pw_below_drewN | apply below_drew1) | exact HB.out)) hb); clear HO_9; clear HB; have HO_9 := n0_; have HB := n1_; clear n0_ n1_; (try clear hb); (try clear hb2); (try clear hgn); (try clear hk); (try clear hi))
                                go_wp2_with fail
                                (go_at_call 11; (with_reducible refine (vote_Need.calls a0 _ _ l1 t203 _ ?side1 ?side2 A48.out).mono ?_); (case side1 => repeat (first | exact (Kd.C_below HR1.out HB.out) | (with_reducible refine Kd.C_alloc ?_ _) | (with_reducible refine Kd.C_drewN ?_ _) | (with_reducible refine Kd.C_drew ?_))); (case side2 => exact HC1.out); rintro e w67 ⟨rfl, hb⟩; have n0_ := Aside0.mk (Kd.R_below (by (with_reducible repeat (first | apply Kd.R_alloc | apply Kd.R_drewN | apply Kd.R_drew)); exact HO_9.out) hb); have n1_ := Aside0.mk (below_step (by repeat (first | (with_reducible first | exact HB.out | apply below_alloc | apply pw_below_drewN | apply below_drew1) | exact HB.out)) hb); clear HO_9; clear HB; have HO_9 := n0_; have HB := n1_; clear n0_ n1_; (try clear hb); (try clear hb2); (try clear hgn); (try clear hk); (try clear hi))
                                go_wp2_with fail
                                go_ret
                                exact ⟨by first | rfl | (simp [errW_none, errW_some] <;> rfl) | (simp only [← hji10]; first | rfl | (simp [errW_none, errW_some] <;> rfl)) | (simp [*, errW_none, errW_some] <;> rfl), by repeat (first | (with_reducible first | exact HB.out | apply below_alloc | apply pw_below_drewN | apply below_drew1) | exact HB.out)⟩
                            · rw [if_neg c46] at H
                              have c46b0 : (t200 == t201) = false := beq_eq_false_iff_ne.mpr c46
                              have c46b1 : (t200 != t201) = true := bne_iff_ne.mpr c46
                              obtain rfl := Option.some.inj H
                              obtain ⟨Ao68, co68, eo68⟩ := Kd.R_slice HO_9.out
                              subst eo68
                              go_wp2_with fail
                              (go_at_call 13; (with_reducible refine (vote_Trips.calls a0 _ _ x9_2 t198 _ ?side1 ?side2 A41.out).mono ?_); (case side1 => repeat (first | exact (Kd.R_reads' HO_9.out).2.2 | (with_reducible refine Kd.C_alloc ?_ _) | (with_reducible refine Kd.C_drewN ?_ _) | (with_reducible refine Kd.C_drew ?_))); (case side2 => exact (Kd.R_reads' HO_9.out).2.1); rintro e w69 ⟨rfl, hb⟩; have n0_ := Aside0.mk (Kd.R_below (by (with_reducible repeat (first | apply Kd.R_alloc | apply Kd.R_drewN | apply Kd.R_drew)); exact HO_9.out) hb); have n1_ := Aside0.mk (below_step (by repeat (first | (with_reducible first | exact HB.out | apply below_alloc | apply pw_below_drewN | apply below_drew1) | exact HB.out)) hb); clear HO_9; clear HB; have HO_9 := n0_; have HB := n1_; clear n0_ n1_; (try clear hb); (try clear hb2); (try clear hgn); (try clear hk); (try clear hi))
                              go_wp2_with fail
                              (go_at_call 13; (with_reducible refine (vote_Trips.calls a0 _ _ l1 t199 _ ?side1 ?side2 A42.out).mono ?_); (case side1 => repeat (first | exact (Kd.C_below HR1.out HB.out) | (with_reducible refine Kd.C_alloc ?_ _) | (with_reducible refine Kd.C_drewN ?_ _) | (with_reducible refine Kd.C_drew ?_))); (case side2 => exact HC1.out); rintro e w70 ⟨rfl, hb⟩; have n0_ := Aside0.mk (Kd.R_below (by (with_reducible repeat (first | apply Kd.R_alloc | apply Kd.R_drewN | apply Kd.R_drew)); exact HO_9.out) hb); have n1_ := Aside0.mk (below_step (by repeat (first | (with_reducible first | exact HB.out | apply below_alloc | apply pw_below_drewN | apply below_drew1) | exact HB.out)) hb); clear HO_9; clear HB; have HO_9 := n0_; have HB := n1_; clear n0_ n1_; (try clear hb); (try clear hb2); (try clear hgn); (try clear hk); (try clear hi))
                              go_wp2_with fail
                              (go_at_call 9; (with_reducible refine (vote_Yes.calls _ _ x9_2 t200 _ ?side1 ?side2 A44.out).mono ?_); (case side1 => repeat (first | exact (Kd.R_reads' HO_9.out).2.2 | (with_reducible refine Kd.C_alloc ?_ _) | (with_reducible refine Kd.C_drewN ?_ _) | (with_reducible refine Kd.C_drew ?_))); (case side2 => exact (Kd.R_reads' HO_9.out).2.1); rintro e w71 ⟨rfl, hb⟩; have n0_ := Aside0.mk (Kd.R_below (by (with_reducible repeat (first | apply Kd.R_alloc | apply Kd.R_drewN | apply Kd.R_drew)); exact HO_9.out) hb); have n1_ := Aside0.mk (below_step (by repeat (first | (with_reducible first | exact HB.out | apply below_alloc | apply pw_below_drewN | apply below_drew1) | exact HB.out)) hb); clear HO_9; clear HB; have HO_9 := n0_; have HB := n1_; clear n0_ n1_; (try clear hb); (try clear hb2); (try clear hgn); (try clear hk); (try clear hi))
                              go_wp2_with fail
                              (go_at_call 9; (with_reducible refine (vote_Yes.calls _ _ l1 t201 _ ?side1 ?side2 A45.out).mono ?_); (case side1 => repeat (first | exact (Kd.C_below HR1.out HB.out) | (with_reducible refine Kd.C_alloc ?_ _) | (with_reducible refine Kd.C_drewN ?_ _) | (with_reducible refine Kd.C_drew ?_))); (case side2 => exact HC1.out); rintro e w72 ⟨rfl, hb⟩; have n0_ := Aside0.mk (Kd.R_below (by (with_reducible repeat (first | apply Kd.R_alloc | apply Kd.R_drewN | apply Kd.R_drew)); exact HO_9.out) hb); have n1_ := Aside0.mk (below_step (by repeat (first | (with_reducible first | exact HB.out | apply below_alloc | apply pw_below_drewN | apply below_drew1) | exact HB.out)) hb); clear HO_9; clear HB; have HO_9 := n0_; have HB := n1_; clear n0_ n1_; (try clear hb); (try clear hb2); (try clear hgn); (try clear hk); (try clear hi))
                              go_wp2_with fail
                              go_ret
                              exact ⟨by first | rfl | (simp [errW_none, errW_some] <;> rfl) | (simp only [← hji10]; first | rfl | (simp [errW_none, errW_some] <;> rfl)) | (simp [*, errW_none, errW_some] <;> rfl), by repeat (first | (with_reducible first | exact HB.out | apply below_alloc | apply pw_below_drewN | apply below_drew1) | exact HB.out)⟩
                          · rw [if_neg c43] at H
                            have c43b0 : (t198 == t199) = false := by simpa using c43
                            (try (have c43b1 : decide (t198 = t199) = false := by simpa using c43))
                            (try (have c43b2 : (t198 == t199) = false := by simpa using c43))
                            (try (have c43b3 : ¬ (t198 = t199) := by simpa using c43))
                            clear c43
                            obtain rfl := Option.some.inj H
                            obtain ⟨Ao73, co73, eo73⟩ := Kd.R_slice HO_9.out
                            subst eo73
                            go_wp2_with fail
                            (go_at_call 13; (with_reducible refine (vote_Trips.calls a0 _ _ x9_2 t198 _ ?side1 ?side2 A41.out).mono ?_); (case side1 => repeat (first | exact (Kd.R_reads' HO_9.out).2.2 | (with_reducible refine Kd.C_alloc ?_ _) | (with_reducible refine Kd.C_drewN ?_ _) | (with_reducible refine Kd.C_drew ?_))); (case side2 => exact (Kd.R_reads' HO_9.out).2.1); rintro e w74 ⟨rfl, hb⟩; have n0_ := Aside0.mk (Kd.R_below (by (with_reducible repeat (first | apply Kd.R_alloc | apply Kd.R_drewN | apply Kd.R_drew)); exact HO_9.out) hb); have n1_ := Aside0.mk (below_step (by repeat (first | (with_reducible first | exact HB.out | apply below_alloc | apply pw_below_drewN | apply below_drew1) | exact HB.out)) hb); clear HO_9; clear HB; have HO_9 := n0_; have HB := n1_; clear n0_ n1_; (try clear hb); (try clear hb2); (try clear hgn); (try clear hk); (try clear hi))
                            go_wp2_with fail
                            (go_at_call 13; (with_reducible refine (vote_Trips.calls a0 _ _ l1 t199 _ ?side1 ?side2 A42.out).mono ?_); (case side1 => repeat (first | exact (Kd.C_below HR1.out HB.out) | (with_reducible refine Kd.C_alloc ?_ _) | (with_reducible refine Kd.C_drewN ?_ _) | (with_reducible refine Kd.C_drew ?_))); (case side2 => exact HC1.out); rintro e w75 ⟨rfl, hb⟩; have n0_ := Aside0.mk (Kd.R_below (by (with_reducible repeat (first | apply Kd.R_alloc | apply Kd.R_drewN | apply Kd.R_drew)); exact HO_9.out) hb); have n1_ := Aside0.mk (below_step (by repeat (first | (with_reducible first | exact HB.out | apply below_alloc | apply pw_below_drewN | apply below_drew1) | exact HB.out)) hb); clear HO_9; clear HB; have HO_9 := n0_; have HB := n1_; clear n0_ n1_; (try clear hb); (try clear hb2); (try clear hgn); (try clear hk); (try clear hi))
                            go_wp2_with fail
                            go_ret
                            exact ⟨by first | rfl | (simp [errW_none, errW_some] <;> rfl) | (simp only [← hji10]; first | rfl | (simp [errW_none, errW_some] <;> rfl)) | (simp [*, errW_none, errW_some] <;> rfl), by repeat (first | (with_reducible first | exact HB.out | apply below_alloc | apply pw_below_drewN | apply below_drew1) | exact HB.out)⟩
                        · replace c40 := Bool.eq_false_iff.mpr c40
                          subst c40
                          have H1 : (some false) = some r := by rw [if_neg (show ¬ (false = true) by decide)] at H; exact H
                          clear H
                          have H := H1
                          clear H1
                          obtain rfl := Option.some.inj H
                          obtain ⟨Ao76, co76, eo76⟩ := Kd.R_slice HO_9.out
                          subst eo76
                          go_wp2
                          go_ret
                          exact ⟨by first | rfl | (simp [errW_none, errW_some] <;> rfl) | (simp only [← hji10]; first | rfl | (simp [errW_none, errW_some] <;> rfl)) | (simp [*, errW_none, errW_some] <;> rfl), by repeat (first | (with_reducible first | exact HB.out | apply below_alloc | apply pw_below_drewN | apply below_drew1) | exact HB.out)⟩
                · rw [if_neg c16] at H
                  exact absurd H (by simp)
              · rw [if_neg c13] at H
                exact absurd H (by simp)
            · rw [if_neg c12] at H
              exact absurd H (by simp)
          · rw [if_neg c11] at H
            exact absurd H (by simp)

end Go.Proofs.Ythhgomobjcpdoaa.QA
