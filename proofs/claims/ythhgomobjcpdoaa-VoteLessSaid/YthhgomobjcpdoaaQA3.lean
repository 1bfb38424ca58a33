/- Contracts of the functions that the law reaches, and what each comes to as a plain function; laid by a program of mine over the printer. -/
import Derived.Test.YthhgomobjcpdoaaQA0
import Derived.Test.YthhgomobjcpdoaaQA1
namespace Go.Proofs.Ythhgomobjcpdoaa.QA
open Go.RowKit Go.Proofs.YthhgomobjcpdoaaW.PrintWords Go.Proofs.YthhgomobjcpdoaaW.PrintLast Go.Proofs.YthhgomobjcpdoaaW.PrintMore
attribute [local go_sem] max2_int min2_int max_two min_two max_three min_three max_four min_four   -- for this text's walks alone
set_option linter.unusedVariables false
set_option linter.unusedSimpArgs false

/-! ### watchkeeperlaw13_VoteMore: function 4 -/
mutual
def watchkeeperlaw13_VoteMore.j0 : Nat → Int → List (S29) → Int → Bool → Bool → Bool → Option (Bool)
  | 0, _, _, _, _, _, _ => none
  | k + 1, x0, x1, x2, x3, x9, x22 => if x22 = true then (some x9) else (if (x1.length : Int) = 0 then (none) else ((some (([] : List (S29)) : List (S29))).bind fun y126 => (if y126.length + x1.length < 46912496118442 then ((some (y126 ++ x1 : List (S29))).bind fun y129 => (if x3 = true then (if 0 ≤ (Int.tmod (wrap64 (x2)) (x1.length : Int)) then (if (Int.tmod (wrap64 (x2)) (x1.length : Int)) < (y129.length : Int) then (watchkeeperlaw13_VoteMore.j1 k x0 x1 x9 (Int.tmod (wrap64 (x2)) (x1.length : Int)) (y129.set ((Int.tmod (wrap64 (x2)) (x1.length : Int)) : Int).toNat (⟨(rd_T29 y129 (Int.tmod (wrap64 (x2)) (x1.length : Int))).f0, true, (rd_T29 y129 (Int.tmod (wrap64 (x2)) (x1.length : Int))).f2⟩ : S29))) else (none)) else (none)) else (if 0 ≤ (Int.tmod (wrap64 (x2)) (x1.length : Int)) then (if (Int.tmod (wrap64 (x2)) (x1.length : Int)) < (y129.length : Int) then (watchkeeperlaw13_VoteMore.j1 k x0 x1 x9 (Int.tmod (wrap64 (x2)) (x1.length : Int)) (y129.set ((Int.tmod (wrap64 (x2)) (x1.length : Int)) : Int).toNat (⟨true, (rd_T29 y129 (Int.tmod (wrap64 (x2)) (x1.length : Int))).f1, (rd_T29 y129 (Int.tmod (wrap64 (x2)) (x1.length : Int))).f2⟩ : S29))) else (none)) else (none)))) else (none))))
def watchkeeperlaw13_VoteMore.j1 : Nat → Int → List (S29) → Bool → Int → List (S29) → Option (Bool)
  | 0, _, _, _, _, _ => none
  | k + 1, x0, x1, x9, x10, x11 => (vote_Trips.f x0 x1).bind fun t134 => (if t134 = true then ((vote_Trips.f x0 x11).bind fun t135 => (if t135 = true then (if 0 ≤ x10 then (if x10 < (x1.length : Int) then (if (rd_T29 x1 x10).f2 = true then ((vote_Trips.f x0 x1).bind fun t137 => ((vote_Trips.f x0 x11).bind fun t138 => (watchkeeperlaw13_VoteMore.j2 k x0 x1 x9 x10 (t137 != t138)))) else (watchkeeperlaw13_VoteMore.j2 k x0 x1 x9 x10 false)) else (none)) else (none)) else (watchkeeperlaw13_VoteMore.j2 k x0 x1 x9 x10 true))) else (if 0 ≤ x10 then (if x10 < (x1.length : Int) then (if (rd_T29 x1 x10).f2 = true then ((vote_Trips.f x0 x1).bind fun t140 => ((vote_Trips.f x0 x11).bind fun t141 => (watchkeeperlaw13_VoteMore.j2 k x0 x1 x9 x10 (t140 != t141)))) else (watchkeeperlaw13_VoteMore.j2 k x0 x1 x9 x10 false)) else (none)) else (none)))
def watchkeeperlaw13_VoteMore.j2 : Nat → Int → List (S29) → Bool → Int → Bool → Option (Bool)
  | 0, _, _, _, _, _ => none
  | k + 1, x0, x1, x9, x10, x65 => if x65 = true then (some false) else (if x0 > 1 then ((vote_Trips.f x0 x1).bind fun t142 => (if t142 = true then ((vote_Trips.f (wrap64 (x0 - 1)) x1).bind fun t143 => (watchkeeperlaw13_VoteMore.j3 k x0 x1 x9 x10 (!t143))) else (watchkeeperlaw13_VoteMore.j3 k x0 x1 x9 x10 false))) else (watchkeeperlaw13_VoteMore.j3 k x0 x1 x9 x10 false))
def watchkeeperlaw13_VoteMore.j3 : Nat → Int → List (S29) → Bool → Int → Bool → Option (Bool)
  | 0, _, _, _, _, _ => none
  | k + 1, x0, x1, x9, x10, x79 => if x79 = true then (some false) else ((some (([] : List (S29)) : List (S29))).bind fun y144 => (if y144.length + x1.length < 46912496118442 then ((some (y144 ++ x1 : List (S29))).bind fun y147 => (if 0 ≤ x10 then (if x10 < (y147.length : Int) then ((some (y147.set (x10 : Int).toNat (⟨false, false, true⟩ : S29) : List (S29))).bind fun y150 => ((some (([] : List (S29)) : List (S29))).bind fun y151 => (if x10 ≤ (x1.length : Int) then ((some (x1.take (x10 : Int).toNat : List (S29))).bind fun y154 => (if y151.length + y154.length < 46912496118442 then ((some (y151 ++ y154 : List (S29))).bind fun y158 => (if 0 ≤ (wrap64 (x10 + 1)) then (if (wrap64 (x10 + 1)) ≤ (x1.length : Int) then ((some (x1.drop ((wrap64 (x10 + 1)) : Int).toNat : List (S29))).bind fun y161 => (if y158.length + y161.length < 46912496118442 then ((some (y158 ++ y161 : List (S29))).bind fun y165 => (if x9 = true then ((vote_Trips.f x0 y150).bind fun t168 => ((vote_Trips.f x0 y165).bind fun t169 => (if (t168 == t169) = true then ((vote_Yes.f y150).bind fun t170 => ((vote_Yes.f y165).bind fun t171 => (if t170 = t171 then ((vote_Need.f x0 y150).bind fun t172 => ((vote_Need.f x0 y165).bind fun t173 => (if t172 = t173 then ((vote_Healthy.f x0 y150).bind fun t174 => (some (!t174))) else (some false)))) else (some false)))) else (some false)))) else (some false))) else (none))) else (none)) else (none))) else (none))) else (none)))) else (none)) else (none))) else (none)))
end
def watchkeeperlaw13_VoteMore.f (k : Nat) (a0 : Int) (l1 : List (S29)) (a2 : Int) (a3 : Bool) : Option (Bool) := (watchkeeperlaw13_head.f).bind fun t125 => (if (l1.length : Int) > 5000 then (watchkeeperlaw13_VoteMore.j0 k a0 l1 a2 a3 t125 true) else (watchkeeperlaw13_VoteMore.j0 k a0 l1 a2 a3 t125 ((l1.length : Int) == 0)))
theorem watchkeeperlaw13_VoteMore.mono_l : ∀ k, (∀ y0 y1 y2 y3 y4 y5, LeO (watchkeeperlaw13_VoteMore.j0 k y0 y1 y2 y3 y4 y5) (watchkeeperlaw13_VoteMore.j0 (k + 1) y0 y1 y2 y3 y4 y5)) ∧ (∀ y0 y1 y2 y3 y4, LeO (watchkeeperlaw13_VoteMore.j1 k y0 y1 y2 y3 y4) (watchkeeperlaw13_VoteMore.j1 (k + 1) y0 y1 y2 y3 y4)) ∧ (∀ y0 y1 y2 y3 y4, LeO (watchkeeperlaw13_VoteMore.j2 k y0 y1 y2 y3 y4) (watchkeeperlaw13_VoteMore.j2 (k + 1) y0 y1 y2 y3 y4)) ∧ (∀ y0 y1 y2 y3 y4, LeO (watchkeeperlaw13_VoteMore.j3 k y0 y1 y2 y3 y4) (watchkeeperlaw13_VoteMore.j3 (k + 1) y0 y1 y2 y3 y4))
  | 0 => ⟨fun _ _ _ _ _ _ r h => by simp [watchkeeperlaw13_VoteMore.j0] at h, fun _ _ _ _ _ r h => by simp [watchkeeperlaw13_VoteMore.j1] at h, fun _ _ _ _ _ r h => by simp [watchkeeperlaw13_VoteMore.j2] at h, fun _ _ _ _ _ r h => by simp [watchkeeperlaw13_VoteMore.j3] at h⟩
  | k + 1 => by
    obtain ⟨ih0, ih1, ih2, ih3⟩ := watchkeeperlaw13_VoteMore.mono_l k
    refine ⟨?_, ?_, ?_, ?_⟩
    · intro y0 y1 y2 y3 y4 y5
      unfold watchkeeperlaw13_VoteMore.j0
      repeat' first
      | (with_reducible exact ih0 _ _ _ _ _ _)
      | (with_reducible exact ih1 _ _ _ _ _)
      | (with_reducible exact ih2 _ _ _ _ _)
      | (with_reducible exact ih3 _ _ _ _ _)
      | (with_reducible exact LeO.refl _)
      | (with_reducible exact LeO.none _)
      | (with_reducible refine LeO.ite ?_ ?_)
      | (with_reducible refine LeO.bind ?_ (fun _ => ?_))
      | exact ih0 _ _ _ _ _ _
      | exact ih1 _ _ _ _ _
      | exact ih2 _ _ _ _ _
      | exact ih3 _ _ _ _ _
      | exact LeO.none _
      | refine LeO.ite ?_ ?_
      | refine LeO.bind ?_ (fun _ => ?_)
    · intro y0 y1 y2 y3 y4
      unfold watchkeeperlaw13_VoteMore.j1
      repeat' first
      | (with_reducible exact ih0 _ _ _ _ _ _)
      | (with_reducible exact ih1 _ _ _ _ _)
      | (with_reducible exact ih2 _ _ _ _ _)
      | (with_reducible exact ih3 _ _ _ _ _)
      | (with_reducible exact LeO.refl _)
      | (with_reducible exact LeO.none _)
      | (with_reducible refine LeO.ite ?_ ?_)
      | (with_reducible refine LeO.bind ?_ (fun _ => ?_))
      | exact ih0 _ _ _ _ _ _
      | exact ih1 _ _ _ _ _
      | exact ih2 _ _ _ _ _
      | exact ih3 _ _ _ _ _
      | exact LeO.none _
      | refine LeO.ite ?_ ?_
      | refine LeO.bind ?_ (fun _ => ?_)
    · intro y0 y1 y2 y3 y4
      unfold watchkeeperlaw13_VoteMore.j2
      repeat' first
      | (with_reducible exact ih0 _ _ _ _ _ _)
      | (with_reducible exact ih1 _ _ _ _ _)
      | (with_reducible exact ih2 _ _ _ _ _)
      | (with_reducible exact ih3 _ _ _ _ _)
      | (with_reducible exact LeO.refl _)
      | (with_reducible exact LeO.none _)
      | (with_reducible refine LeO.ite ?_ ?_)
      | (with_reducible refine LeO.bind ?_ (fun _ => ?_))
      | exact ih0 _ _ _ _ _ _
      | exact ih1 _ _ _ _ _
      | exact ih2 _ _ _ _ _
      | exact ih3 _ _ _ _ _
      | exact LeO.none _
      | refine LeO.ite ?_ ?_
      | refine LeO.bind ?_ (fun _ => ?_)
    · intro y0 y1 y2 y3 y4
      unfold watchkeeperlaw13_VoteMore.j3
      repeat' first
      | (with_reducible exact ih0 _ _ _ _ _ _)
      | (with_reducible exact ih1 _ _ _ _ _)
      | (with_reducible exact ih2 _ _ _ _ _)
      | (with_reducible exact ih3 _ _ _ _ _)
      | (with_reducible exact LeO.refl _)
      | (with_reducible exact LeO.none _)
      | (with_reducible refine LeO.ite ?_ ?_)
      | (with_reducible refine LeO.bind ?_ (fun _ => ?_))
      | exact ih0 _ _ _ _ _ _
      | exact ih1 _ _ _ _ _
      | exact ih2 _ _ _ _ _
      | exact ih3 _ _ _ _ _
      | exact LeO.none _
      | refine LeO.ite ?_ ?_
      | refine LeO.bind ?_ (fun _ => ?_)
theorem watchkeeperlaw13_VoteMore.mono : ∀ a0 a1 a2 a3 k, LeO (watchkeeperlaw13_VoteMore.f k a0 a1 a2 a3) (watchkeeperlaw13_VoteMore.f (k + 1) a0 a1 a2 a3) := by
  intro a0 a1 a2 a3 k
  obtain ⟨ih0, ih1, ih2, ih3⟩ := watchkeeperlaw13_VoteMore.mono_l k
  unfold watchkeeperlaw13_VoteMore.f
  repeat' first
      | (with_reducible exact ih0 _ _ _ _ _ _)
      | (with_reducible exact ih1 _ _ _ _ _)
      | (with_reducible exact ih2 _ _ _ _ _)
      | (with_reducible exact ih3 _ _ _ _ _)
      | (with_reducible exact LeO.refl _)
      | (with_reducible exact LeO.none _)
      | (with_reducible refine LeO.ite ?_ ?_)
      | (with_reducible refine LeO.bind ?_ (fun _ => ?_))
      | exact ih0 _ _ _ _ _ _
      | exact ih1 _ _ _ _ _
      | exact ih2 _ _ _ _ _
      | exact ih3 _ _ _ _ _
      | exact LeO.none _
      | refine LeO.ite ?_ ?_
      | refine LeO.bind ?_ (fun _ => ?_)
def watchkeeperlaw13_VoteMore.T15 : Bool × List (List Nat × List Nat) := (true, [([], []), ([], []), ([], []), ([1, 2], [1, 2]), ([0, 3], [0, 3]), ([], []), ([], []), ([6], [6]), ([5, 7], [5, 7]), ([4, 8, 4], [4, 8]), ([9, 9, 0, 1, 2, 3, 4, 5, 6, 7, 8, 9], [9])])
def watchkeeperlaw13_VoteMore.B15 : List Nat := [0, 0, 0, 6, 15, 0, 0, 64, 224, 511, 1023]
theorem watchkeeperlaw13_VoteMore.tab15 : rtab .any (opsOf Try.f4 15) = watchkeeperlaw13_VoteMore.T15 := by kernel_rfl
theorem watchkeeperlaw13_VoteMore.bits15 : waitsOk watchkeeperlaw13_VoteMore.T15.2 watchkeeperlaw13_VoteMore.B15 = true := by kernel_rfl
set_option maxHeartbeats 8000000 in
set_option maxRecDepth 100000 in
theorem watchkeeperlaw13_VoteMore.calls (k : Nat) (a0 : Int) (A1 : Option Addr) (c1 : Nat) (l1 : List (S29)) (a2 : Int) (a3 : Bool) (r : Bool) (w : World) (hr1 : Kd.C k29 w A1 l1.length l1) (hc1 : l1.length ≤ c1) (h : watchkeeperlaw13_VoteMore.f k a0 l1 a2 a3 = some r) :
    Calls Try.prog 4 #[.int .i64 a0, .slice A1 l1.length c1, .int .u16 a2, .bool a3] w fun e w' => e = .returned (.bool r) ∧ Below w.heap.size w w' := by
  have hu29 := Try.underlying29
  have HR1 := Aside0.mk hr1
  have HC1 := Aside0.mk hc1
  clear hr1 hc1
  have HB := Aside0.mk (Below.refl w.heap.size w)
  have H : ((watchkeeperlaw13_head.f).bind fun t125 => (if (l1.length : Int) > 5000 then (watchkeeperlaw13_VoteMore.j0 k a0 l1 a2 a3 t125 true) else (watchkeeperlaw13_VoteMore.j0 k a0 l1 a2 a3 t125 ((l1.length : Int) == 0)))) = some r := h
  clear h
  replace H := Option.bind_eq_some_iff.mp H
  obtain ⟨t125, A50, H⟩ := H
  replace H : (if (l1.length : Int) > 5000 then (watchkeeperlaw13_VoteMore.j0 k a0 l1 a2 a3 t125 true) else (watchkeeperlaw13_VoteMore.j0 k a0 l1 a2 a3 t125 ((l1.length : Int) == 0))) = some r := H
  have A5 := Aside0.mk A50
  clear A50
  have HC6 := Aside0.mk H
  clear H
  go_enter Try.func4, Try.ntmps4
  go_upto_region 2 with (first | ((with_reducible refine gate_callee (f := 8) rfl ?_); refine goesL_ (some 14) rfl rfl Try.func8 (by kernel_rfl) rfl #[] rfl (by (try simp only [List.map_toArray, List.map_cons, List.map_nil]); first | done | rfl | (simp only [List.length_drop, List.length_take]; rfl)) ?_; (with_reducible refine (watchkeeperlaw13_head.calls  t125 _ A5.out).mono ?_); rintro e w7 ⟨rfl, hb⟩; refine ⟨_, rfl, ?_⟩; have n0_ := Aside0.mk (below_step (by repeat (first | (with_reducible first | exact HB.out | apply below_alloc | apply pw_below_drewN | apply below_drew1) | exact HB.out)) hb); clear HB; have HB := n0_; clear n0_; (try clear hb); (try clear hb2); (try clear hgn); (try clear hk); (try clear hi)))
  (try simp only [Act.put, List.setIfInBounds_toArray, List.set_cons_zero, List.set_cons_succ])
  go_cut [22] (fun v22 wc => ∃ (kq : Nat) (x22_5 : Bool), v22 = .bool x22_5 ∧ Aside0 (watchkeeperlaw13_VoteMore.j0 kq a0 l1 a2 a3 t125 x22_5 = some r) ∧ Aside0 (kq ≤ k) ∧ Aside0 (Below w.heap.size w wc))
  case first =>
    have H := HC6.out
    clear HC6
    by_cases c8 : (l1.length : Int) > 5000
    · rw [if_pos c8] at H
      have c8b0 : decide (5000 < (l1.length : Int)) = true := decide_eq_true c8
      have c8b1 : decide (5000 < l1.length) = true := decide_eq_true (by omega)
      clear c8
      (first | rw [c8b0] | (simp only [i64_w, i32_w]; rw [c8b0]) | skip)
      have H' := Aside0.mk H
      clear H
      go_wp2
      go_meet
      case rel => exact ⟨_, (true), (by first | rfl | (simp; done) | (simp [*]; done)), H', ⟨by first | omega | exact Nat.le_refl _⟩, ⟨by repeat (first | (with_reducible first | exact HB.out | apply below_alloc | apply pw_below_drewN | apply below_drew1) | exact HB.out)⟩⟩
    · rw [if_neg c8] at H
      have c8b0 : decide (5000 < (l1.length : Int)) = false := decide_eq_false c8
      have c8b1 : decide (5000 < l1.length) = false := decide_eq_false (by omega)
      clear c8
      (first | rw [c8b0] | (simp only [i64_w, i32_w]; rw [c8b0]) | skip)
      have H' := Aside0.mk H
      clear H
      go_wp2
      go_meet
      case rel => exact ⟨_, (((l1.length : Int) == 0)), (by first | rfl | (simp; done) | (simp [*]; done)), H', ⟨by first | omega | exact Nat.le_refl _⟩, ⟨by repeat (first | (with_reducible first | exact HB.out | apply below_alloc | apply pw_below_drewN | apply below_drew1) | exact HB.out)⟩⟩
  case rest =>
    clear HC6
    try clear c1
    try clear p2
    try clear c4
    try clear c8
    try clear c8b0
    try clear c8b1
    obtain ⟨kq, x22_5, rfl, HA, HJ5, HB⟩ := hcut
    cases kq with
    | zero => exact absurd HA.out (by simp [watchkeeperlaw13_VoteMore.j0])
    | succ kj5 =>
      have H := HA.out
      clear HA
      simp only [watchkeeperlaw13_VoteMore.j0] at H
      by_cases c9 : x22_5 = true
      · subst c9
        have H1 : (some t125) = some r := by rw [if_pos rfl] at H; exact H
        clear H
        have H := H1
        clear H1
        obtain rfl := Option.some.inj H
        go_wp2
        go_ret
        exact ⟨by first | rfl | (simp [errW_none, errW_some] <;> rfl) | (simp [*, errW_none, errW_some] <;> rfl), by repeat (first | (with_reducible first | exact HB.out | apply below_alloc | apply pw_below_drewN | apply below_drew1) | exact HB.out)⟩
      · replace c9 := Bool.eq_false_iff.mpr c9
        subst c9
        have H1 : (if (l1.length : Int) = 0 then (none) else ((some (([] : List (S29)) : List (S29))).bind fun y126 => (if y126.length + l1.length < 46912496118442 then ((some (y126 ++ l1 : List (S29))).bind fun y129 => (if a3 = true then (if 0 ≤ (Int.tmod (wrap64 (a2)) (l1.length : Int)) then (if (Int.tmod (wrap64 (a2)) (l1.length : Int)) < (y129.length : Int) then (watchkeeperlaw13_VoteMore.j1 kj5 a0 l1 t125 (Int.tmod (wrap64 (a2)) (l1.length : Int)) (y129.set ((Int.tmod (wrap64 (a2)) (l1.length : Int)) : Int).toNat (⟨(rd_T29 y129 (Int.tmod (wrap64 (a2)) (l1.length : Int))).f0, true, (rd_T29 y129 (Int.tmod (wrap64 (a2)) (l1.length : Int))).f2⟩ : S29))) else (none)) else (none)) else (if 0 ≤ (Int.tmod (wrap64 (a2)) (l1.length : Int)) then (if (Int.tmod (wrap64 (a2)) (l1.length : Int)) < (y129.length : Int) then (watchkeeperlaw13_VoteMore.j1 kj5 a0 l1 t125 (Int.tmod (wrap64 (a2)) (l1.length : Int)) (y129.set ((Int.tmod (wrap64 (a2)) (l1.length : Int)) : Int).toNat (⟨true, (rd_T29 y129 (Int.tmod (wrap64 (a2)) (l1.length : Int))).f1, (rd_T29 y129 (Int.tmod (wrap64 (a2)) (l1.length : Int))).f2⟩ : S29))) else (none)) else (none)))) else (none)))) = some r := by rw [if_neg (show ¬ (false = true) by decide)] at H; exact H
        clear H
        have H := H1
        clear H1
        by_cases c10 : (l1.length : Int) = 0
        · rw [if_pos c10] at H
          exact absurd H (by simp)
        · rw [if_neg c10] at H
          have c10b0 : ((l1.length : Int) == 0) = false := beq_eq_false_iff_ne.mpr c10
          have c10b1 : ((l1.length : Int) != 0) = true := bne_iff_ne.mpr c10
          have c10b2 : ¬ (l1 = []) := fun h_ => c10 (by rw [h_]; rfl)
          obtain ⟨y126, hy126⟩ : ∃ y_ : List (S29), y_ = (([] : List (S29))) := ⟨_, rfl⟩
          replace H : (if y126.length + l1.length < 46912496118442 then ((some (y126 ++ l1 : List (S29))).bind fun y129 => (if a3 = true then (if 0 ≤ (Int.tmod (wrap64 (a2)) (l1.length : Int)) then (if (Int.tmod (wrap64 (a2)) (l1.length : Int)) < (y129.length : Int) then (watchkeeperlaw13_VoteMore.j1 kj5 a0 l1 t125 (Int.tmod (wrap64 (a2)) (l1.length : Int)) (y129.set ((Int.tmod (wrap64 (a2)) (l1.length : Int)) : Int).toNat (⟨(rd_T29 y129 (Int.tmod (wrap64 (a2)) (l1.length : Int))).f0, true, (rd_T29 y129 (Int.tmod (wrap64 (a2)) (l1.length : Int))).f2⟩ : S29))) else (none)) else (none)) else (if 0 ≤ (Int.tmod (wrap64 (a2)) (l1.length : Int)) then (if (Int.tmod (wrap64 (a2)) (l1.length : Int)) < (y129.length : Int) then (watchkeeperlaw13_VoteMore.j1 kj5 a0 l1 t125 (Int.tmod (wrap64 (a2)) (l1.length : Int)) (y129.set ((Int.tmod (wrap64 (a2)) (l1.length : Int)) : Int).toNat (⟨true, (rd_T29 y129 (Int.tmod (wrap64 (a2)) (l1.length : Int))).f1, (rd_T29 y129 (Int.tmod (wrap64 (a2)) (l1.length : Int))).f2⟩ : S29))) else (none)) else (none)))) else (none)) = some r := by first | (rw [hy126]; with_reducible exact H) | (have H2_ := (Option.bind_some _ _).symm.trans H; rw [hy126]; with_reducible exact H2_) | (have H2_ := (Option.bind_some _ _).symm.trans H; with_reducible exact H2_) | with_reducible exact H | (rw [hy126]; exact H) | exact H
          have Ny126 := Aside0.mk hy126
          clear hy126
          by_cases c11 : y126.length + l1.length < 46912496118442
          · rw [if_pos c11] at H
            have LMc11 := Aside0.mk c11
            clear c11
            obtain ⟨y129, hy129⟩ : ∃ y_ : List (S29), y_ = (y126 ++ l1) := ⟨_, rfl⟩
            replace H : (if a3 = true then (if 0 ≤ (Int.tmod (wrap64 (a2)) (l1.length : Int)) then (if (Int.tmod (wrap64 (a2)) (l1.length : Int)) < (y129.length : Int) then (watchkeeperlaw13_VoteMore.j1 kj5 a0 l1 t125 (Int.tmod (wrap64 (a2)) (l1.length : Int)) (y129.set ((Int.tmod (wrap64 (a2)) (l1.length : Int)) : Int).toNat (⟨(rd_T29 y129 (Int.tmod (wrap64 (a2)) (l1.length : Int))).f0, true, (rd_T29 y129 (Int.tmod (wrap64 (a2)) (l1.length : Int))).f2⟩ : S29))) else (none)) else (none)) else (if 0 ≤ (Int.tmod (wrap64 (a2)) (l1.length : Int)) then (if (Int.tmod (wrap64 (a2)) (l1.length : Int)) < (y129.length : Int) then (watchkeeperlaw13_VoteMore.j1 kj5 a0 l1 t125 (Int.tmod (wrap64 (a2)) (l1.length : Int)) (y129.set ((Int.tmod (wrap64 (a2)) (l1.length : Int)) : Int).toNat (⟨true, (rd_T29 y129 (Int.tmod (wrap64 (a2)) (l1.length : Int))).f1, (rd_T29 y129 (Int.tmod (wrap64 (a2)) (l1.length : Int))).f2⟩ : S29))) else (none)) else (none))) = some r := by first | (rw [hy129]; with_reducible exact H) | (have H2_ := (Option.bind_some _ _).symm.trans H; rw [hy129]; with_reducible exact H2_) | (have H2_ := (Option.bind_some _ _).symm.trans H; with_reducible exact H2_) | with_reducible exact H | (rw [hy129]; exact H) | exact H
            have Ny129 := Aside0.mk hy129
            clear hy129
            have HC12 := Aside0.mk H
            clear H
            go_upto_if 32 with (first | ((with_reducible refine gate_dst (N := 29) rfl ?_); (try (refine gate_guard (by rfl) ?_; dsimp only)); refine Kd.R_lit k29 _ 29 ?hg (N := 29) ?hd (xs := ([] : List (S29))) (inner := []) (ok := fun _ => True) (okp := fun _ => True) ?hr ?hp (fun _ hk => hk) trivial (Below.refl _ _) (Nat.le_refl _) (by simp) ?_; (case hd => rfl); (case hg => rfl); (case hr => first | (go_simp; done) | (go_simp; rfl)); (case hp => exact (Reps.none _ _)); intro v127 w13 ho14 hb hg_ hnew_; clear hg_ hnew_; (first | rw [← Ny126.out] at ho14 | (simp only [Int.reduceToNat] at ho14; rw [← Ny126.out] at ho14)); have n0_ := Aside0.mk (Kd.R_lower ho14 (below_size (by repeat (first | (with_reducible first | exact HB.out | apply below_alloc | apply pw_below_drewN | apply below_drew1) | exact HB.out)))); have n1_ := Aside0.mk (below_step (by repeat (first | (with_reducible first | exact HB.out | apply below_alloc | apply pw_below_drewN | apply below_drew1) | exact HB.out)) hb); clear HB; have HO128 := n0_; have HB := n1_; clear n0_ n1_; clear hb ho14) | ((with_reducible refine gate_builtin (b := .append) (xs := #[.tmp 29, .tmp 30]) rfl ?_); (try (refine gate_guard (by rfl) ?_; dsimp only)); at_builtin; refine Kd.R_append_rows k29 (w0 := w) w.heap.size rfl (.tmp 29) (.tmp 30) 22 29 (.agg #[(.bool false), (.bool false), (.bool false)]) 3 rfl Try.underlying22 info29 rfl (by decide) (by omega) v127 y126 l1 _ _ _ (fun _ => True) (fun _ => False) rfl rfl ?aO ?aR (fun _ _ h => h) (fun _ h => h.elim) ?aF ?aB ?aS ?aL ?_; (case aR => repeat (first | exact (Kd.C_below HR1.out HB.out) | (with_reducible refine Kd.C_alloc ?_ _) | (with_reducible refine Kd.C_drewN ?_ _) | (with_reducible refine Kd.C_drew ?_))); (case aB => exact (by repeat (first | (with_reducible first | exact HB.out | apply below_alloc | apply pw_below_drewN | apply below_drew1) | exact HB.out))); (case aF => exact (fun _ _ => trivial)); (case aO => exact (by (with_reducible repeat (first | apply Kd.R_alloc | apply Kd.R_drewN | apply Kd.R_drew)); exact HO128.out)); (case aS => exact (below_size (by repeat (first | (with_reducible first | exact HB.out | apply below_alloc | apply pw_below_drewN | apply below_drew1) | exact HB.out)))); (case aL => have := LMc11.out; omega); intro v130 w15 ho hb hg hat; rw [← Ny129.out] at ho; have n0_ := Aside0.mk (hb); have n1_ := Aside0.mk (ho); clear HB; clear HO128; have HB := n0_; have HO131 := n1_; clear n0_ n1_; clear ho hb hg hat))
            (try simp only [Act.put, List.setIfInBounds_toArray, List.set_cons_zero, List.set_cons_succ])
            go_cut [] (fun wc => ∃ (kq : Nat) (x11_11 : List (S29)), Aside0 (watchkeeperlaw13_VoteMore.j1 kq a0 l1 t125 (Int.tmod (wrap64 (a2)) (l1.length : Int)) x11_11 = some r) ∧ Aside0 (kq ≤ kj5) ∧ Aside0 (Kd.R k29 29 wc w.heap.size (fun _ => True) v130 x11_11) ∧ Aside0 (Below w.heap.size w wc))
            case first =>
              have H := HC12.out
              clear HC12
              by_cases c16 : a3 = true
              · subst c16
                have H1 : (if 0 ≤ (Int.tmod (wrap64 (a2)) (l1.length : Int)) then (if (Int.tmod (wrap64 (a2)) (l1.length : Int)) < (y129.length : Int) then (watchkeeperlaw13_VoteMore.j1 kj5 a0 l1 t125 (Int.tmod (wrap64 (a2)) (l1.length : Int)) (y129.set ((Int.tmod (wrap64 (a2)) (l1.length : Int)) : Int).toNat (⟨(rd_T29 y129 (Int.tmod (wrap64 (a2)) (l1.length : Int))).f0, true, (rd_T29 y129 (Int.tmod (wrap64 (a2)) (l1.length : Int))).f2⟩ : S29))) else (none)) else (none)) = some r := by rw [if_pos rfl] at H; exact H
                clear H
                have H := H1
                clear H1
                obtain ⟨ji17, hji17⟩ : ∃ j_ : Int, (Int.tmod (wrap64 (a2)) (l1.length : Int)) = j_ := ⟨_, rfl⟩
                replace H : (if 0 ≤ (ji17) then (if (ji17) < (y129.length : Int) then (watchkeeperlaw13_VoteMore.j1 kj5 a0 l1 t125 ji17 (y129.set ((ji17) : Int).toNat (⟨(rd_T29 y129 (ji17)).f0, true, (rd_T29 y129 (ji17)).f2⟩ : S29))) else (none)) else (none)) = some r := by first | (rw [hji17] at H; exact H) | (simp only [hji17] at H ⊢; exact H)
                by_cases c18 : 0 ≤ (ji17)
                · rw [if_pos c18] at H
                  have c18b0 : decide (0 ≤ (ji17)) = true := decide_eq_true c18
                  clear c18
                  (first | rw [c18b0] | (simp only [i64_w, i32_w]; rw [c18b0]) | skip)
                  by_cases c19 : (ji17) < (y129.length : Int)
                  · rw [if_pos c19] at H
                    have c19b0 : decide ((ji17) < (y129.length : Int)) = true := decide_eq_true c19
                    clear c19
                    obtain ⟨y132, hy132⟩ : ∃ y_ : List (S29), y_ = (y129.set ((ji17) : Int).toNat (⟨(rd_T29 y129 (ji17)).f0, true, (rd_T29 y129 (ji17)).f2⟩ : S29)) := ⟨_, rfl⟩
                    replace H : (watchkeeperlaw13_VoteMore.j1 kj5 a0 l1 t125 ji17 y132) = some r := by first | (rw [hy132]; with_reducible exact H) | (have H2_ := (Option.bind_some _ _).symm.trans H; rw [hy132]; with_reducible exact H2_) | (have H2_ := (Option.bind_some _ _).symm.trans H; with_reducible exact H2_) | with_reducible exact H | (rw [hy132]; exact H) | exact H
                    have Ny132 := Aside0.mk hy132
                    clear hy132
                    have H' := Aside0.mk H
                    clear H
                    have p20 : 0 ≤ ((ji17) : Int) := of_decide_eq_true (by first | (with_reducible assumption) | assumption)
                    have q20 : ((ji17) : Int) < ((y129.length : Int) : Int) := of_decide_eq_true (by first | (with_reducible assumption) | assumption)
                    obtain ⟨go20, co20, eo20, gb20, gl20, cl20, HG20⟩ := Kd.R_form HO131.out (by omega)
                    (first | cases eo20 | (injection eo20 with ea_ en_ ec_; (first | subst ea_ | (injection ea_ with ea_; subst ea_)); subst ec_; clear en_))
                    have GB20 := Aside0.mk gb20
                    have GG20 := Aside0.mk HG20
                    clear gb20 gl20 HG20
                    obtain ⟨ce20, hcl20, hM20, hcc20, hfr20⟩ := Kd.R_elem HO131.out z29 ((ji17) : Int) p20 q20
                    obtain rfl := k29_openM hM20
                    have hx20_0 : w15.cell? ⟨go20, ((ji17) : Int).toNat * 3, none⟩ = some (.bool ((rd_T29 y129 (ji17)).f0)) := hcc20 0 _ rfl
                    have hx20_1 : w15.cell? ⟨go20, ((ji17) : Int).toNat * 3 + 1, none⟩ = some (.bool ((rd_T29 y129 (ji17)).f1)) := hcc20 1 _ rfl
                    have hx20_2 : w15.cell? ⟨go20, ((ji17) : Int).toNat * 3 + 2, none⟩ = some (.bool ((rd_T29 y129 (ji17)).f2)) := hcc20 2 _ rfl
                    have hf20_0 : w15.frozen? ⟨go20, ((ji17) : Int).toNat * 3, none⟩ = false := hfr20 0
                    have hf20_1 : w15.frozen? ⟨go20, ((ji17) : Int).toNat * 3 + 1, none⟩ = false := hfr20 1
                    have hf20_2 : w15.frozen? ⟨go20, ((ji17) : Int).toNat * 3 + 2, none⟩ = false := hfr20 2
                    clear hcl20 hcc20 hfr20 hM20
                    replace p20 := eq_true p20
                    replace q20 := eq_true q20
                    have HX21 := Aside0.mk (show Kd.R k29 29 w15 w.heap.size (fun _ => True) (.slice (some ⟨go20, 0, none⟩) y129.length co20) y129 from (by (with_reducible repeat (first | apply Kd.R_alloc | apply Kd.R_drewN | apply Kd.R_drew)); exact HO131.out))
                    obtain ⟨ce21, hcl21, hM21, hcc21, hfr21⟩ := Kd.R_elem HX21.out z29 ((ji17) : Int) (of_decide_eq_true (by first | (with_reducible assumption) | assumption)) (by have h_ : ((ji17) : Int) < ((y129.length : Int) : Int) := of_decide_eq_true (by first | (with_reducible assumption) | assumption); first | exact h_ | (have e_ := (Kd.R_reads' HO131.out).1; omega) | simpa using h_)
                    obtain rfl := k29_openM hM21
                    have HP21 := Kd.R_seg HX21.out ((ji17) : Int) (of_decide_eq_true (by first | (with_reducible assumption) | assumption)) (by have h_ : ((ji17) : Int) < ((y129.length : Int) : Int) := of_decide_eq_true (by first | (with_reducible assumption) | assumption); first | exact h_ | (have e_ := (Kd.R_reads' HO131.out).1; omega) | simpa using h_) (seg := [.bool true]) (j := 1) hcl21 hcc21 (show 2 ≤ 3 from by decide) (x' := (⟨(rd_T29 y129 (ji17)).f0, true, (rd_T29 y129 (ji17)).f2⟩ : S29)) (k29_mkM _ _ _ (⟨(rd_T29 y129 (ji17)).f0, true, (rd_T29 y129 (ji17)).f2⟩ : S29) ) (fun _ hk => hk)
                    have hx21_1 := hcc21 1 _ rfl
                    (try simp only [show (k29).sz = 3 from rfl, Nat.mul_one, Nat.add_zero] at hx21_1)
                    have hf21_1 := hfr21 1
                    (try simp only [show (k29).sz = 3 from rfl, Nat.mul_one, Nat.add_zero] at hf21_1)
                    clear hcl21 hcc21 hfr21 hM21
                    go_wp2_with (first | ((with_reducible refine gate_store (t := 4) (p := 36) rfl ?_); refine store_event (t := 4) (p := 36) (v := ?vo_w22) (w1 := (w15.setCell ⟨go20, ((ji17) : Int).toNat * 3 + 1, none⟩ (.bool true))) ?hg ?ho ?hn ?hr ?_; (case ho => rfl); (case hg => rfl); (case hn => rfl); (case hr => first | (go_simp; done) | (go_simp; rfl)); intro w22 hw; have hg : w15.grownBy w22 (some go20) := (by rw [hw]; exact HP21.2); have hp_ : Kd.R k29 29 w22 w.heap.size (fun _ => True) (.slice (some ⟨go20, 0, none⟩) y129.length co20) y132 := (by rw [hw, Ny132.out]; exact HP21.1); clear HP21; have n0_ := Aside0.mk (hp_); have n1_ := Aside0.mk ((by rw [hw]; exact below_set (HB.out) GB20.out : Below w.heap.size w w22)); clear HO131; clear HB; have HO131 := n0_; have HB := n1_; clear n0_ n1_; clear hg hw hp_))
                    go_meet
                    case rel => exact ⟨_, (y132), (by first | exact H' | (rw [hji17]; exact H')), ⟨by have := HJ5.out; first | omega | exact Nat.le_refl _⟩, ⟨by (with_reducible repeat (first | apply Kd.R_alloc | apply Kd.R_drewN | apply Kd.R_drew)); exact HO131.out⟩, ⟨by repeat (first | (with_reducible first | exact HB.out | apply below_alloc | apply pw_below_drewN | apply below_drew1) | exact HB.out)⟩⟩
                  · rw [if_neg c19] at H
                    exact absurd H (by simp)
                · rw [if_neg c18] at H
                  exact absurd H (by simp)
              · replace c16 := Bool.eq_false_iff.mpr c16
                subst c16
                have H1 : (if 0 ≤ (Int.tmod (wrap64 (a2)) (l1.length : Int)) then (if (Int.tmod (wrap64 (a2)) (l1.length : Int)) < (y129.length : Int) then (watchkeeperlaw13_VoteMore.j1 kj5 a0 l1 t125 (Int.tmod (wrap64 (a2)) (l1.length : Int)) (y129.set ((Int.tmod (wrap64 (a2)) (l1.length : Int)) : Int).toNat (⟨true, (rd_T29 y129 (Int.tmod (wrap64 (a2)) (l1.length : Int))).f1, (rd_T29 y129 (Int.tmod (wrap64 (a2)) (l1.length : Int))).f2⟩ : S29))) else (none)) else (none)) = some r := by rw [if_neg (show ¬ (false = true) by decide)] at H; exact H
                clear H
                have H := H1
                clear H1
                obtain ⟨ji23, hji23⟩ : ∃ j_ : Int, (Int.tmod (wrap64 (a2)) (l1.length : Int)) = j_ := ⟨_, rfl⟩
                replace H : (if 0 ≤ (ji23) then (if (ji23) < (y129.length : Int) then (watchkeeperlaw13_VoteMore.j1 kj5 a0 l1 t125 ji23 (y129.set ((ji23) : Int).toNat (⟨true, (rd_T29 y129 (ji23)).f1, (rd_T29 y129 (ji23)).f2⟩ : S29))) else (none)) else (none)) = some r := by first | (rw [hji23] at H; exact H) | (simp only [hji23] at H ⊢; exact H)
                by_cases c24 : 0 ≤ (ji23)
                · rw [if_pos c24] at H
                  have c24b0 : decide (0 ≤ (ji23)) = true := decide_eq_true c24
                  clear c24
                  by_cases c25 : (ji23) < (y129.length : Int)
                  · rw [if_pos c25] at H
                    have c25b0 : decide ((ji23) < (y129.length : Int)) = true := decide_eq_true c25
                    clear c25
                    obtain ⟨y133, hy133⟩ : ∃ y_ : List (S29), y_ = (y129.set ((ji23) : Int).toNat (⟨true, (rd_T29 y129 (ji23)).f1, (rd_T29 y129 (ji23)).f2⟩ : S29)) := ⟨_, rfl⟩
                    replace H : (watchkeeperlaw13_VoteMore.j1 kj5 a0 l1 t125 ji23 y133) = some r := by first | (rw [hy133]; with_reducible exact H) | (have H2_ := (Option.bind_some _ _).symm.trans H; rw [hy133]; with_reducible exact H2_) | (have H2_ := (Option.bind_some _ _).symm.trans H; with_reducible exact H2_) | with_reducible exact H | (rw [hy133]; exact H) | exact H
                    have Ny133 := Aside0.mk hy133
                    clear hy133
                    have H' := Aside0.mk H
                    clear H
                    have p26 : 0 ≤ ((ji23) : Int) := of_decide_eq_true (by first | (with_reducible assumption) | assumption)
                    have q26 : ((ji23) : Int) < ((y129.length : Int) : Int) := of_decide_eq_true (by first | (with_reducible assumption) | assumption)
                    obtain ⟨go26, co26, eo26, gb26, gl26, cl26, HG26⟩ := Kd.R_form HO131.out (by omega)
                    (first | cases eo26 | (injection eo26 with ea_ en_ ec_; (first | subst ea_ | (injection ea_ with ea_; subst ea_)); subst ec_; clear en_))
                    have GB26 := Aside0.mk gb26
                    have GG26 := Aside0.mk HG26
                    clear gb26 gl26 HG26
                    obtain ⟨ce26, hcl26, hM26, hcc26, hfr26⟩ := Kd.R_elem HO131.out z29 ((ji23) : Int) p26 q26
                    obtain rfl := k29_openM hM26
                    have hx26_0 : w15.cell? ⟨go26, ((ji23) : Int).toNat * 3, none⟩ = some (.bool ((rd_T29 y129 (ji23)).f0)) := hcc26 0 _ rfl
                    have hx26_1 : w15.cell? ⟨go26, ((ji23) : Int).toNat * 3 + 1, none⟩ = some (.bool ((rd_T29 y129 (ji23)).f1)) := hcc26 1 _ rfl
                    have hx26_2 : w15.cell? ⟨go26, ((ji23) : Int).toNat * 3 + 2, none⟩ = some (.bool ((rd_T29 y129 (ji23)).f2)) := hcc26 2 _ rfl
                    have hf26_0 : w15.frozen? ⟨go26, ((ji23) : Int).toNat * 3, none⟩ = false := hfr26 0
                    have hf26_1 : w15.frozen? ⟨go26, ((ji23) : Int).toNat * 3 + 1, none⟩ = false := hfr26 1
                    have hf26_2 : w15.frozen? ⟨go26, ((ji23) : Int).toNat * 3 + 2, none⟩ = false := hfr26 2
                    clear hcl26 hcc26 hfr26 hM26
                    replace p26 := eq_true p26
                    replace q26 := eq_true q26
                    have HX27 := Aside0.mk (show Kd.R k29 29 w15 w.heap.size (fun _ => True) (.slice (some ⟨go26, 0, none⟩) y129.length co26) y129 from (by (with_reducible repeat (first | apply Kd.R_alloc | apply Kd.R_drewN | apply Kd.R_drew)); exact HO131.out))
                    obtain ⟨ce27, hcl27, hM27, hcc27, hfr27⟩ := Kd.R_elem HX27.out z29 ((ji23) : Int) (of_decide_eq_true (by first | (with_reducible assumption) | assumption)) (by have h_ : ((ji23) : Int) < ((y129.length : Int) : Int) := of_decide_eq_true (by first | (with_reducible assumption) | assumption); first | exact h_ | (have e_ := (Kd.R_reads' HO131.out).1; omega) | simpa using h_)
                    obtain rfl := k29_openM hM27
                    have HP27 := Kd.R_seg HX27.out ((ji23) : Int) (of_decide_eq_true (by first | (with_reducible assumption) | assumption)) (by have h_ : ((ji23) : Int) < ((y129.length : Int) : Int) := of_decide_eq_true (by first | (with_reducible assumption) | assumption); first | exact h_ | (have e_ := (Kd.R_reads' HO131.out).1; omega) | simpa using h_) (seg := [.bool true]) (j := 0) hcl27 hcc27 (show 1 ≤ 3 from by decide) (x' := (⟨true, (rd_T29 y129 (ji23)).f1, (rd_T29 y129 (ji23)).f2⟩ : S29)) (k29_mkM _ _ _ (⟨true, (rd_T29 y129 (ji23)).f1, (rd_T29 y129 (ji23)).f2⟩ : S29) ) (fun _ hk => hk)
                    have hx27_0 := hcc27 0 _ rfl
                    (try simp only [show (k29).sz = 3 from rfl, Nat.mul_one, Nat.add_zero] at hx27_0)
                    have hf27_0 := hfr27 0
                    (try simp only [show (k29).sz = 3 from rfl, Nat.mul_one, Nat.add_zero] at hf27_0)
                    clear hcl27 hcc27 hfr27 hM27
                    go_wp2_with (first | ((with_reducible refine gate_store (t := 4) (p := 40) rfl ?_); refine store_event (t := 4) (p := 40) (v := ?vo_w28) (w1 := (w15.setCell ⟨go26, ((ji23) : Int).toNat * 3, none⟩ (.bool true))) ?hg ?ho ?hn ?hr ?_; (case ho => rfl); (case hg => rfl); (case hn => rfl); (case hr => first | (go_simp; done) | (go_simp; rfl)); intro w28 hw; have hg : w15.grownBy w28 (some go26) := (by rw [hw]; exact HP27.2); have hp_ : Kd.R k29 29 w28 w.heap.size (fun _ => True) (.slice (some ⟨go26, 0, none⟩) y129.length co26) y133 := (by rw [hw, Ny133.out]; exact HP27.1); clear HP27; have n0_ := Aside0.mk (hp_); have n1_ := Aside0.mk ((by rw [hw]; exact below_set (HB.out) GB26.out : Below w.heap.size w w28)); clear HO131; clear HB; have HO131 := n0_; have HB := n1_; clear n0_ n1_; clear hg hw hp_))
                    go_meet
                    case rel => exact ⟨_, (y133), (by first | exact H' | (rw [hji23]; exact H')), ⟨by have := HJ5.out; first | omega | exact Nat.le_refl _⟩, ⟨by (with_reducible repeat (first | apply Kd.R_alloc | apply Kd.R_drewN | apply Kd.R_drew)); exact HO131.out⟩, ⟨by repeat (first | (with_reducible first | exact HB.out | apply below_alloc | apply pw_below_drewN | apply below_drew1) | exact HB.out)⟩⟩
                  · rw [if_neg c25] at H
                    exact absurd H (by simp)
                · rw [if_neg c24] at H
                  exact absurd H (by simp)
            case rest =>
              clear HC12
              try clear c1
              try clear c2
              try clear p2
              try clear q2
              try clear hx2
              try clear c4
              try clear p6
              try clear c8
              try clear c8b0
              try clear c8b1
              try clear c9
              try clear c10
              try clear c10b0
              try clear c10b1
              try clear c10b2
              try clear c11
              try clear c16
              try clear c18
              try clear c18b0
              try clear c19
              try clear c19b0
              try clear c20
              try clear p20
              try clear q20
              try clear hx20
              try clear hf20
              try clear c21
              try clear hx21
              try clear hf21
              try clear c24
              try clear c24b0
              try clear c25
              try clear c25b0
              try clear c26
              try clear p26
              try clear q26
              try clear hx26
              try clear hf26
              try clear c27
              try clear hx27
              try clear hf27
              try clear hx20_0
              try clear hx20_1
              try clear hx20_2
              try clear hx21_1
              try clear hx26_0
              try clear hx26_1
              try clear hx26_2
              try clear hx27_0
              try clear p2
              try clear p20
              try clear p26
              try clear q20
              try clear q26
              obtain ⟨kq, x11_11, HA, HJ11, HO_11, HB⟩ := hcut
              cases kq with
              | zero => exact absurd HA.out (by simp [watchkeeperlaw13_VoteMore.j1])
              | succ kj11 =>
                have H := HA.out
                clear HA
                simp only [watchkeeperlaw13_VoteMore.j1] at H
                have HC29 := Aside0.mk H
                clear H
                go_upto_region 9 with (fail)
                go_cut [65] (fun v65 wc => ∃ (kq : Nat) (x65_28 : Bool), v65 = .bool x65_28 ∧ Aside0 (watchkeeperlaw13_VoteMore.j2 kq a0 l1 t125 (Int.tmod (wrap64 (a2)) (l1.length : Int)) x65_28 = some r) ∧ Aside0 (kq ≤ kj11) ∧ Aside0 (Below w.heap.size w wc))
                case first =>
                  have H := HC29.out
                  clear HC29
                  replace H := Option.bind_eq_some_iff.mp H
                  obtain ⟨t134, A300, H⟩ := H
                  replace H : (if t134 = true then ((vote_Trips.f a0 x11_11).bind fun t135 => (if t135 = true then (if 0 ≤ (Int.tmod (wrap64 (a2)) (l1.length : Int)) then (if (Int.tmod (wrap64 (a2)) (l1.length : Int)) < (l1.length : Int) then (if (rd_T29 l1 (Int.tmod (wrap64 (a2)) (l1.length : Int))).f2 = true then ((vote_Trips.f a0 l1).bind fun t137 => ((vote_Trips.f a0 x11_11).bind fun t138 => (watchkeeperlaw13_VoteMore.j2 kj11 a0 l1 t125 (Int.tmod (wrap64 (a2)) (l1.length : Int)) (t137 != t138)))) else (watchkeeperlaw13_VoteMore.j2 kj11 a0 l1 t125 (Int.tmod (wrap64 (a2)) (l1.length : Int)) false)) else (none)) else (none)) else (watchkeeperlaw13_VoteMore.j2 kj11 a0 l1 t125 (Int.tmod (wrap64 (a2)) (l1.length : Int)) true))) else (if 0 ≤ (Int.tmod (wrap64 (a2)) (l1.length : Int)) then (if (Int.tmod (wrap64 (a2)) (l1.length : Int)) < (l1.length : Int) then (if (rd_T29 l1 (Int.tmod (wrap64 (a2)) (l1.length : Int))).f2 = true then ((vote_Trips.f a0 l1).bind fun t140 => ((vote_Trips.f a0 x11_11).bind fun t141 => (watchkeeperlaw13_VoteMore.j2 kj11 a0 l1 t125 (Int.tmod (wrap64 (a2)) (l1.length : Int)) (t140 != t141)))) else (watchkeeperlaw13_VoteMore.j2 kj11 a0 l1 t125 (Int.tmod (wrap64 (a2)) (l1.length : Int)) false)) else (none)) else (none))) = some r := H
                  have A30 := Aside0.mk A300
                  clear A300
                  by_cases c31 : t134 = true
                  · subst c31
                    have H1 : ((vote_Trips.f a0 x11_11).bind fun t135 => (if t135 = true then (if 0 ≤ (Int.tmod (wrap64 (a2)) (l1.length : Int)) then (if (Int.tmod (wrap64 (a2)) (l1.length : Int)) < (l1.length : Int) then (if (rd_T29 l1 (Int.tmod (wrap64 (a2)) (l1.length : Int))).f2 = true then ((vote_Trips.f a0 l1).bind fun t137 => ((vote_Trips.f a0 x11_11).bind fun t138 => (watchkeeperlaw13_VoteMore.j2 kj11 a0 l1 t125 (Int.tmod (wrap64 (a2)) (l1.length : Int)) (t137 != t138)))) else (watchkeeperlaw13_VoteMore.j2 kj11 a0 l1 t125 (Int.tmod (wrap64 (a2)) (l1.length : Int)) false)) else (none)) else (none)) else (watchkeeperlaw13_VoteMore.j2 kj11 a0 l1 t125 (Int.tmod (wrap64 (a2)) (l1.length : Int)) true))) = some r := by rw [if_pos rfl] at H; exact H
                    clear H
                    have H := H1
                    clear H1
                    replace H := Option.bind_eq_some_iff.mp H
                    obtain ⟨t135, A320, H⟩ := H
                    replace H : (if t135 = true then (if 0 ≤ (Int.tmod (wrap64 (a2)) (l1.length : Int)) then (if (Int.tmod (wrap64 (a2)) (l1.length : Int)) < (l1.length : Int) then (if (rd_T29 l1 (Int.tmod (wrap64 (a2)) (l1.length : Int))).f2 = true then ((vote_Trips.f a0 l1).bind fun t137 => ((vote_Trips.f a0 x11_11).bind fun t138 => (watchkeeperlaw13_VoteMore.j2 kj11 a0 l1 t125 (Int.tmod (wrap64 (a2)) (l1.length : Int)) (t137 != t138)))) else (watchkeeperlaw13_VoteMore.j2 kj11 a0 l1 t125 (Int.tmod (wrap64 (a2)) (l1.length : Int)) false)) else (none)) else (none)) else (watchkeeperlaw13_VoteMore.j2 kj11 a0 l1 t125 (Int.tmod (wrap64 (a2)) (l1.length : Int)) true)) = some r := H
                    have A32 := Aside0.mk A320
                    clear A320
                    by_cases c33 : t135 = true
                    · subst c33
                      have H1 : (if 0 ≤ (Int.tmod (wrap64 (a2)) (l1.length : Int)) then (if (Int.tmod (wrap64 (a2)) (l1.length : Int)) < (l1.length : Int) then (if (rd_T29 l1 (Int.tmod (wrap64 (a2)) (l1.length : Int))).f2 = true then ((vote_Trips.f a0 l1).bind fun t137 => ((vote_Trips.f a0 x11_11).bind fun t138 => (watchkeeperlaw13_VoteMore.j2 kj11 a0 l1 t125 (Int.tmod (wrap64 (a2)) (l1.length : Int)) (t137 != t138)))) else (watchkeeperlaw13_VoteMore.j2 kj11 a0 l1 t125 (Int.tmod (wrap64 (a2)) (l1.length : Int)) false)) else (none)) else (none)) = some r := by rw [if_pos rfl] at H; exact H
                      clear H
                      have H := H1
                      clear H1
                      obtain ⟨ji34, hji34⟩ : ∃ j_ : Int, (Int.tmod (wrap64 (a2)) (l1.length : Int)) = j_ := ⟨_, rfl⟩
                      replace H : (if 0 ≤ (ji34) then (if (ji34) < (l1.length : Int) then (if (rd_T29 l1 (ji34)).f2 = true then ((vote_Trips.f a0 l1).bind fun t137 => ((vote_Trips.f a0 x11_11).bind fun t138 => (watchkeeperlaw13_VoteMore.j2 kj11 a0 l1 t125 (ji34) (t137 != t138)))) else (watchkeeperlaw13_VoteMore.j2 kj11 a0 l1 t125 (ji34) false)) else (none)) else (none)) = some r := by first | (rw [hji34] at H; exact H) | (simp only [hji34] at H ⊢; exact H)
                      (try rw [hji34] at A30)
                      (try rw [hji34] at A32)
                      by_cases c35 : 0 ≤ (ji34)
                      · rw [if_pos c35] at H
                        have c35b0 : decide (0 ≤ (ji34)) = true := decide_eq_true c35
                        clear c35
                        (first | rw [c35b0] | (simp only [i64_w, i32_w]; rw [c35b0]) | skip)
                        by_cases c36 : (ji34) < (l1.length : Int)
                        · rw [if_pos c36] at H
                          have c36b0 : decide ((ji34) < (l1.length : Int)) = true := decide_eq_true c36
                          clear c36
                          obtain ⟨bq37, hbq37⟩ : ∃ b_ : Bool, b_ = ((rd_T29 l1 (ji34)).f2) := ⟨_, rfl⟩
                          replace H : (if bq37 = true then ((vote_Trips.f a0 l1).bind fun t137 => ((vote_Trips.f a0 x11_11).bind fun t138 => (watchkeeperlaw13_VoteMore.j2 kj11 a0 l1 t125 (ji34) (t137 != t138)))) else (watchkeeperlaw13_VoteMore.j2 kj11 a0 l1 t125 (ji34) false)) = some r := by rw [← hbq37] at H; exact H
                          have Nbq37 := Aside0.mk hbq37
                          clear hbq37
                          by_cases c38 : bq37 = true
                          · subst c38
                            have H1 : ((vote_Trips.f a0 l1).bind fun t137 => ((vote_Trips.f a0 x11_11).bind fun t138 => (watchkeeperlaw13_VoteMore.j2 kj11 a0 l1 t125 (ji34) (t137 != t138)))) = some r := by rw [if_pos rfl] at H; exact H
                            clear H
                            have H := H1
                            clear H1
                            replace H := Option.bind_eq_some_iff.mp H
                            obtain ⟨t137, A390, H⟩ := H
                            replace H : ((vote_Trips.f a0 x11_11).bind fun t138 => (watchkeeperlaw13_VoteMore.j2 kj11 a0 l1 t125 (ji34) (t137 != t138))) = some r := H
                            have A39 := Aside0.mk A390
                            clear A390
                            replace H := Option.bind_eq_some_iff.mp H
                            obtain ⟨t138, A400, H⟩ := H
                            replace H : (watchkeeperlaw13_VoteMore.j2 kj11 a0 l1 t125 (ji34) (t137 != t138)) = some r := H
                            have A40 := Aside0.mk A400
                            clear A400
                            have H' := Aside0.mk H
                            clear H
                            go_wp2_with (first | ((with_reducible refine gate_callee (f := 13) rfl ?_); refine goesL_ (some 43) rfl rfl Try.func13 (by kernel_rfl) rfl #[.int .i64 a0, .slice A1 l1.length c1] rfl (by (try simp only [List.map_toArray, List.map_cons, List.map_nil]); first | done | rfl | (simp only [List.length_drop, List.length_take]; rfl)) ?_; (with_reducible refine (vote_Trips.calls a0 _ _ l1 true _ ?side1 ?side2 A30.out).mono ?_); (case side1 => repeat (first | exact (Kd.C_below HR1.out HB.out) | (with_reducible refine Kd.C_alloc ?_ _) | (with_reducible refine Kd.C_drewN ?_ _) | (with_reducible refine Kd.C_drew ?_))); (case side2 => exact HC1.out); rintro e w41 ⟨rfl, hb⟩; refine ⟨_, rfl, ?_⟩; have n0_ := Aside0.mk (Kd.R_below (by (with_reducible repeat (first | apply Kd.R_alloc | apply Kd.R_drewN | apply Kd.R_drew)); exact HO_11.out) hb); have n1_ := Aside0.mk (below_step (by repeat (first | (with_reducible first | exact HB.out | apply below_alloc | apply pw_below_drewN | apply below_drew1) | exact HB.out)) hb); clear HO_11; clear HB; have HO_11 := n0_; have HB := n1_; clear n0_ n1_; (try clear hb); (try clear hb2); (try clear hgn); (try clear hk); (try clear hi); obtain ⟨Ao42, co42, eo42⟩ := Kd.R_slice HO_11.out; subst eo42) | (go_at_call 13; (with_reducible refine (vote_Trips.calls a0 _ _ x11_11 true _ ?side1 ?side2 A32.out).mono ?_); (case side1 => repeat (first | exact (Kd.R_reads' HO_11.out).2.2 | (with_reducible refine Kd.C_alloc ?_ _) | (with_reducible refine Kd.C_drewN ?_ _) | (with_reducible refine Kd.C_drew ?_))); (case side2 => exact (Kd.R_reads' HO_11.out).2.1); rintro e w43 ⟨rfl, hb⟩; have n0_ := Aside0.mk (Kd.R_below (by (with_reducible repeat (first | apply Kd.R_alloc | apply Kd.R_drewN | apply Kd.R_drew)); exact HO_11.out) hb); have n1_ := Aside0.mk (below_step (by repeat (first | (with_reducible first | exact HB.out | apply below_alloc | apply pw_below_drewN | apply below_drew1) | exact HB.out)) hb); clear HO_11; clear HB; have HO_11 := n0_; have HB := n1_; clear n0_ n1_; (try clear hb); (try clear hb2); (try clear hgn); (try clear hk); (try clear hi); have p136 : 0 ≤ ((ji34) : Int) := of_decide_eq_true (by first | (with_reducible assumption) | assumption); have q136 : (ji34) < (l1.length : Int) := of_decide_eq_true (by first | (with_reducible assumption) | assumption); obtain ⟨ad136, e136, hx136_0, hx136_1, hx136_2⟩ := at_T29 HR1.out (ji34) p136 q136; (try rw [← Nbq37.out] at hx136_0); (try rw [← Nbq37.out] at hx136_1); (try rw [← Nbq37.out] at hx136_2); cases e136; replace hx136_0 := (HB.out.cell (World.block_lt_of_cell? w _ hx136_0)).trans hx136_0; replace hx136_1 := (HB.out.cell (World.block_lt_of_cell? w _ hx136_1)).trans hx136_1; replace hx136_2 := (HB.out.cell (World.block_lt_of_cell? w _ hx136_2)).trans hx136_2; replace p136 := eq_true p136; replace q136 := eq_true q136) | (go_at_call 13; (with_reducible refine (vote_Trips.calls a0 _ _ l1 t137 _ ?side1 ?side2 A39.out).mono ?_); (case side1 => repeat (first | exact (Kd.C_below HR1.out HB.out) | (with_reducible refine Kd.C_alloc ?_ _) | (with_reducible refine Kd.C_drewN ?_ _) | (with_reducible refine Kd.C_drew ?_))); (case side2 => exact HC1.out); rintro e w44 ⟨rfl, hb⟩; have n0_ := Aside0.mk (Kd.R_below (by (with_reducible repeat (first | apply Kd.R_alloc | apply Kd.R_drewN | apply Kd.R_drew)); exact HO_11.out) hb); have n1_ := Aside0.mk (below_step (by repeat (first | (with_reducible first | exact HB.out | apply below_alloc | apply pw_below_drewN | apply below_drew1) | exact HB.out)) hb); clear HO_11; clear HB; have HO_11 := n0_; have HB := n1_; clear n0_ n1_; (try clear hb); (try clear hb2); (try clear hgn); (try clear hk); (try clear hi)) | (go_at_call 13; (with_reducible refine (vote_Trips.calls a0 _ _ x11_11 t138 _ ?side1 ?side2 A40.out).mono ?_); (case side1 => repeat (first | exact (Kd.R_reads' HO_11.out).2.2 | (with_reducible refine Kd.C_alloc ?_ _) | (with_reducible refine Kd.C_drewN ?_ _) | (with_reducible refine Kd.C_drew ?_))); (case side2 => exact (Kd.R_reads' HO_11.out).2.1); rintro e w45 ⟨rfl, hb⟩; have n0_ := Aside0.mk (Kd.R_below (by (with_reducible repeat (first | apply Kd.R_alloc | apply Kd.R_drewN | apply Kd.R_drew)); exact HO_11.out) hb); have n1_ := Aside0.mk (below_step (by repeat (first | (with_reducible first | exact HB.out | apply below_alloc | apply pw_below_drewN | apply below_drew1) | exact HB.out)) hb); clear HO_11; clear HB; have HO_11 := n0_; have HB := n1_; clear n0_ n1_; (try clear hb); (try clear hb2); (try clear hgn); (try clear hk); (try clear hi)))
                            subst hji34
                            go_meet
                            case rel => exact ⟨_, ((t137 != t138)), (by first | rfl | (simp; done) | (have e1_ := Option.some.inj (A39.out.symm.trans A30.out); have e2_ := Option.some.inj (A40.out.symm.trans A32.out); simp [e1_, e2_]; done) | (simp [*]; done)), H', ⟨by have := HJ5.out; have := HJ11.out; first | omega | exact Nat.le_refl _⟩, ⟨by repeat (first | (with_reducible first | exact HB.out | apply below_alloc | apply pw_below_drewN | apply below_drew1) | exact HB.out)⟩⟩
                          · replace c38 := Bool.eq_false_iff.mpr c38
                            subst c38
                            have H1 : (watchkeeperlaw13_VoteMore.j2 kj11 a0 l1 t125 (ji34) false) = some r := by rw [if_neg (show ¬ (false = true) by decide)] at H; exact H
                            clear H
                            have H := H1
                            clear H1
                            have H' := Aside0.mk H
                            clear H
                            go_wp2_with (first | ((with_reducible refine gate_callee (f := 13) rfl ?_); refine goesL_ (some 43) rfl rfl Try.func13 (by kernel_rfl) rfl #[.int .i64 a0, .slice A1 l1.length c1] rfl (by (try simp only [List.map_toArray, List.map_cons, List.map_nil]); first | done | rfl | (simp only [List.length_drop, List.length_take]; rfl)) ?_; (with_reducible refine (vote_Trips.calls a0 _ _ l1 true _ ?side1 ?side2 A30.out).mono ?_); (case side1 => repeat (first | exact (Kd.C_below HR1.out HB.out) | (with_reducible refine Kd.C_alloc ?_ _) | (with_reducible refine Kd.C_drewN ?_ _) | (with_reducible refine Kd.C_drew ?_))); (case side2 => exact HC1.out); rintro e w46 ⟨rfl, hb⟩; refine ⟨_, rfl, ?_⟩; have n0_ := Aside0.mk (Kd.R_below (by (with_reducible repeat (first | apply Kd.R_alloc | apply Kd.R_drewN | apply Kd.R_drew)); exact HO_11.out) hb); have n1_ := Aside0.mk (below_step (by repeat (first | (with_reducible first | exact HB.out | apply below_alloc | apply pw_below_drewN | apply below_drew1) | exact HB.out)) hb); clear HO_11; clear HB; have HO_11 := n0_; have HB := n1_; clear n0_ n1_; (try clear hb); (try clear hb2); (try clear hgn); (try clear hk); (try clear hi); obtain ⟨Ao47, co47, eo47⟩ := Kd.R_slice HO_11.out; subst eo47) | (go_at_call 13; (with_reducible refine (vote_Trips.calls a0 _ _ x11_11 true _ ?side1 ?side2 A32.out).mono ?_); (case side1 => repeat (first | exact (Kd.R_reads' HO_11.out).2.2 | (with_reducible refine Kd.C_alloc ?_ _) | (with_reducible refine Kd.C_drewN ?_ _) | (with_reducible refine Kd.C_drew ?_))); (case side2 => exact (Kd.R_reads' HO_11.out).2.1); rintro e w48 ⟨rfl, hb⟩; have n0_ := Aside0.mk (Kd.R_below (by (with_reducible repeat (first | apply Kd.R_alloc | apply Kd.R_drewN | apply Kd.R_drew)); exact HO_11.out) hb); have n1_ := Aside0.mk (below_step (by repeat (first | (with_reducible first | exact HB.out | apply below_alloc | apply pw_below_drewN | apply below_drew1) | exact HB.out)) hb); clear HO_11; clear HB; have HO_11 := n0_; have HB := n1_; clear n0_ n1_; (try clear hb); (try clear hb2); (try clear hgn); (try clear hk); (try clear hi); have p136 : 0 ≤ ((ji34) : Int) := of_decide_eq_true (by first | (with_reducible assumption) | assumption); have q136 : (ji34) < (l1.length : Int) := of_decide_eq_true (by first | (with_reducible assumption) | assumption); obtain ⟨ad136, e136, hx136_0, hx136_1, hx136_2⟩ := at_T29 HR1.out (ji34) p136 q136; (try rw [← Nbq37.out] at hx136_0); (try rw [← Nbq37.out] at hx136_1); (try rw [← Nbq37.out] at hx136_2); cases e136; replace hx136_0 := (HB.out.cell (World.block_lt_of_cell? w _ hx136_0)).trans hx136_0; replace hx136_1 := (HB.out.cell (World.block_lt_of_cell? w _ hx136_1)).trans hx136_1; replace hx136_2 := (HB.out.cell (World.block_lt_of_cell? w _ hx136_2)).trans hx136_2; replace p136 := eq_true p136; replace q136 := eq_true q136))
                            subst hji34
                            go_meet
                            case rel => exact ⟨_, (false), (by first | rfl | (simp; done) | (simp [*]; done)), H', ⟨by have := HJ5.out; have := HJ11.out; first | omega | exact Nat.le_refl _⟩, ⟨by repeat (first | (with_reducible first | exact HB.out | apply below_alloc | apply pw_below_drewN | apply below_drew1) | exact HB.out)⟩⟩
                        · rw [if_neg c36] at H
                          exact absurd H (by simp)
                      · rw [if_neg c35] at H
                        exact absurd H (by simp)
                    · replace c33 := Bool.eq_false_iff.mpr c33
                      subst c33
                      have H1 : (watchkeeperlaw13_VoteMore.j2 kj11 a0 l1 t125 (Int.tmod (wrap64 (a2)) (l1.length : Int)) true) = some r := by rw [if_neg (show ¬ (false = true) by decide)] at H; exact H
                      clear H
                      have H := H1
                      clear H1
                      have H' := Aside0.mk H
                      clear H
                      go_wp2_with (first | ((with_reducible refine gate_callee (f := 13) rfl ?_); refine goesL_ (some 43) rfl rfl Try.func13 (by kernel_rfl) rfl #[.int .i64 a0, .slice A1 l1.length c1] rfl (by (try simp only [List.map_toArray, List.map_cons, List.map_nil]); first | done | rfl | (simp only [List.length_drop, List.length_take]; rfl)) ?_; (with_reducible refine (vote_Trips.calls a0 _ _ l1 true _ ?side1 ?side2 A30.out).mono ?_); (case side1 => repeat (first | exact (Kd.C_below HR1.out HB.out) | (with_reducible refine Kd.C_alloc ?_ _) | (with_reducible refine Kd.C_drewN ?_ _) | (with_reducible refine Kd.C_drew ?_))); (case side2 => exact HC1.out); rintro e w49 ⟨rfl, hb⟩; refine ⟨_, rfl, ?_⟩; have n0_ := Aside0.mk (Kd.R_below (by (with_reducible repeat (first | apply Kd.R_alloc | apply Kd.R_drewN | apply Kd.R_drew)); exact HO_11.out) hb); have n1_ := Aside0.mk (below_step (by repeat (first | (with_reducible first | exact HB.out | apply below_alloc | apply pw_below_drewN | apply below_drew1) | exact HB.out)) hb); clear HO_11; clear HB; have HO_11 := n0_; have HB := n1_; clear n0_ n1_; (try clear hb); (try clear hb2); (try clear hgn); (try clear hk); (try clear hi); obtain ⟨Ao50, co50, eo50⟩ := Kd.R_slice HO_11.out; subst eo50) | (go_at_call 13; (with_reducible refine (vote_Trips.calls a0 _ _ x11_11 false _ ?side1 ?side2 A32.out).mono ?_); (case side1 => repeat (first | exact (Kd.R_reads' HO_11.out).2.2 | (with_reducible refine Kd.C_alloc ?_ _) | (with_reducible refine Kd.C_drewN ?_ _) | (with_reducible refine Kd.C_drew ?_))); (case side2 => exact (Kd.R_reads' HO_11.out).2.1); rintro e w51 ⟨rfl, hb⟩; have n0_ := Aside0.mk (Kd.R_below (by (with_reducible repeat (first | apply Kd.R_alloc | apply Kd.R_drewN | apply Kd.R_drew)); exact HO_11.out) hb); have n1_ := Aside0.mk (below_step (by repeat (first | (with_reducible first | exact HB.out | apply below_alloc | apply pw_below_drewN | apply below_drew1) | exact HB.out)) hb); clear HO_11; clear HB; have HO_11 := n0_; have HB := n1_; clear n0_ n1_; (try clear hb); (try clear hb2); (try clear hgn); (try clear hk); (try clear hi)))
                      go_meet
                      case rel => exact ⟨_, (true), (by first | rfl | (simp; done) | (simp [*]; done)), H', ⟨by have := HJ5.out; have := HJ11.out; first | omega | exact Nat.le_refl _⟩, ⟨by repeat (first | (with_reducible first | exact HB.out | apply below_alloc | apply pw_below_drewN | apply below_drew1) | exact HB.out)⟩⟩
                  · replace c31 := Bool.eq_false_iff.mpr c31
                    subst c31
                    have H1 : (if 0 ≤ (Int.tmod (wrap64 (a2)) (l1.length : Int)) then (if (Int.tmod (wrap64 (a2)) (l1.length : Int)) < (l1.length : Int) then (if (rd_T29 l1 (Int.tmod (wrap64 (a2)) (l1.length : Int))).f2 = true then ((vote_Trips.f a0 l1).bind fun t140 => ((vote_Trips.f a0 x11_11).bind fun t141 => (watchkeeperlaw13_VoteMore.j2 kj11 a0 l1 t125 (Int.tmod (wrap64 (a2)) (l1.length : Int)) (t140 != t141)))) else (watchkeeperlaw13_VoteMore.j2 kj11 a0 l1 t125 (Int.tmod (wrap64 (a2)) (l1.length : Int)) false)) else (none)) else (none)) = some r := by rw [if_neg (show ¬ (false = true) by decide)] at H; exact H
                    clear H
                    have H := H1
                    clear H1
                    obtain ⟨ji52, hji52⟩ : ∃ j_ : Int, (Int.tmod (wrap64 (a2)) (l1.length : Int)) = j_ := ⟨_, rfl⟩
                    replace H : (if 0 ≤ (ji52) then (if (ji52) < (l1.length : Int) then (if (rd_T29 l1 (ji52)).f2 = true then ((vote_Trips.f a0 l1).bind fun t140 => ((vote_Trips.f a0 x11_11).bind fun t141 => (watchkeeperlaw13_VoteMore.j2 kj11 a0 l1 t125 (ji52) (t140 != t141)))) else (watchkeeperlaw13_VoteMore.j2 kj11 a0 l1 t125 (ji52) false)) else (none)) else (none)) = some r := by first | (rw [hji52] at H; exact H) | (simp only [hji52] at H ⊢; exact H)
                    (try rw [hji52] at A30)
                    by_cases c53 : 0 ≤ (ji52)
                    · rw [if_pos c53] at H
                      have c53b0 : decide (0 ≤ (ji52)) = true := decide_eq_true c53
                      clear c53
                      by_cases c54 : (ji52) < (l1.length : Int)
                      · rw [if_pos c54] at H
                        have c54b0 : decide ((ji52) < (l1.length : Int)) = true := decide_eq_true c54
                        clear c54
                        obtain ⟨bq55, hbq55⟩ : ∃ b_ : Bool, b_ = ((rd_T29 l1 (ji52)).f2) := ⟨_, rfl⟩
                        replace H : (if bq55 = true then ((vote_Trips.f a0 l1).bind fun t140 => ((vote_Trips.f a0 x11_11).bind fun t141 => (watchkeeperlaw13_VoteMore.j2 kj11 a0 l1 t125 (ji52) (t140 != t141)))) else (watchkeeperlaw13_VoteMore.j2 kj11 a0 l1 t125 (ji52) false)) = some r := by rw [← hbq55] at H; exact H
                        have Nbq55 := Aside0.mk hbq55
                        clear hbq55
                        by_cases c56 : bq55 = true
                        · subst c56
                          have H1 : ((vote_Trips.f a0 l1).bind fun t140 => ((vote_Trips.f a0 x11_11).bind fun t141 => (watchkeeperlaw13_VoteMore.j2 kj11 a0 l1 t125 (ji52) (t140 != t141)))) = some r := by rw [if_pos rfl] at H; exact H
                          clear H
                          have H := H1
                          clear H1
                          replace H := Option.bind_eq_some_iff.mp H
                          obtain ⟨t140, A570, H⟩ := H
                          replace H : ((vote_Trips.f a0 x11_11).bind fun t141 => (watchkeeperlaw13_VoteMore.j2 kj11 a0 l1 t125 (ji52) (t140 != t141))) = some r := H
                          have A57 := Aside0.mk A570
                          clear A570
                          replace H := Option.bind_eq_some_iff.mp H
                          obtain ⟨t141, A580, H⟩ := H
                          replace H : (watchkeeperlaw13_VoteMore.j2 kj11 a0 l1 t125 (ji52) (t140 != t141)) = some r := H
                          have A58 := Aside0.mk A580
                          clear A580
                          have H' := Aside0.mk H
                          clear H
                          go_wp2_with (first | ((with_reducible refine gate_callee (f := 13) rfl ?_); refine goesL_ (some 43) rfl rfl Try.func13 (by kernel_rfl) rfl #[.int .i64 a0, .slice A1 l1.length c1] rfl (by (try simp only [List.map_toArray, List.map_cons, List.map_nil]); first | done | rfl | (simp only [List.length_drop, List.length_take]; rfl)) ?_; (with_reducible refine (vote_Trips.calls a0 _ _ l1 false _ ?side1 ?side2 A30.out).mono ?_); (case side1 => repeat (first | exact (Kd.C_below HR1.out HB.out) | (with_reducible refine Kd.C_alloc ?_ _) | (with_reducible refine Kd.C_drewN ?_ _) | (with_reducible refine Kd.C_drew ?_))); (case side2 => exact HC1.out); rintro e w59 ⟨rfl, hb⟩; refine ⟨_, rfl, ?_⟩; have n0_ := Aside0.mk (Kd.R_below (by (with_reducible repeat (first | apply Kd.R_alloc | apply Kd.R_drewN | apply Kd.R_drew)); exact HO_11.out) hb); have n1_ := Aside0.mk (below_step (by repeat (first | (with_reducible first | exact HB.out | apply below_alloc | apply pw_below_drewN | apply below_drew1) | exact HB.out)) hb); clear HO_11; clear HB; have HO_11 := n0_; have HB := n1_; clear n0_ n1_; (try clear hb); (try clear hb2); (try clear hgn); (try clear hk); (try clear hi); have p139 : 0 ≤ ((ji52) : Int) := of_decide_eq_true (by first | (with_reducible assumption) | assumption); have q139 : (ji52) < (l1.length : Int) := of_decide_eq_true (by first | (with_reducible assumption) | assumption); obtain ⟨ad139, e139, hx139_0, hx139_1, hx139_2⟩ := at_T29 HR1.out (ji52) p139 q139; (try rw [← Nbq55.out] at hx139_0); (try rw [← Nbq55.out] at hx139_1); (try rw [← Nbq55.out] at hx139_2); cases e139; replace hx139_0 := (HB.out.cell (World.block_lt_of_cell? w _ hx139_0)).trans hx139_0; replace hx139_1 := (HB.out.cell (World.block_lt_of_cell? w _ hx139_1)).trans hx139_1; replace hx139_2 := (HB.out.cell (World.block_lt_of_cell? w _ hx139_2)).trans hx139_2; replace p139 := eq_true p139; replace q139 := eq_true q139) | (go_at_call 13; (with_reducible refine (vote_Trips.calls a0 _ _ l1 t140 _ ?side1 ?side2 A57.out).mono ?_); (case side1 => repeat (first | exact (Kd.C_below HR1.out HB.out) | (with_reducible refine Kd.C_alloc ?_ _) | (with_reducible refine Kd.C_drewN ?_ _) | (with_reducible refine Kd.C_drew ?_))); (case side2 => exact HC1.out); rintro e w60 ⟨rfl, hb⟩; have n0_ := Aside0.mk (Kd.R_below (by (with_reducible repeat (first | apply Kd.R_alloc | apply Kd.R_drewN | apply Kd.R_drew)); exact HO_11.out) hb); have n1_ := Aside0.mk (below_step (by repeat (first | (with_reducible first | exact HB.out | apply below_alloc | apply pw_below_drewN | apply below_drew1) | exact HB.out)) hb); clear HO_11; clear HB; have HO_11 := n0_; have HB := n1_; clear n0_ n1_; (try clear hb); (try clear hb2); (try clear hgn); (try clear hk); (try clear hi); obtain ⟨Ao61, co61, eo61⟩ := Kd.R_slice HO_11.out; subst eo61) | (go_at_call 13; (with_reducible refine (vote_Trips.calls a0 _ _ x11_11 t141 _ ?side1 ?side2 A58.out).mono ?_); (case side1 => repeat (first | exact (Kd.R_reads' HO_11.out).2.2 | (with_reducible refine Kd.C_alloc ?_ _) | (with_reducible refine Kd.C_drewN ?_ _) | (with_reducible refine Kd.C_drew ?_))); (case side2 => exact (Kd.R_reads' HO_11.out).2.1); rintro e w62 ⟨rfl, hb⟩; have n0_ := Aside0.mk (Kd.R_below (by (with_reducible repeat (first | apply Kd.R_alloc | apply Kd.R_drewN | apply Kd.R_drew)); exact HO_11.out) hb); have n1_ := Aside0.mk (below_step (by repeat (first | (with_reducible first | exact HB.out | apply below_alloc | apply pw_below_drewN | apply below_drew1) | exact HB.out)) hb); clear HO_11; clear HB; have HO_11 := n0_; have HB := n1_; clear n0_ n1_; (try clear hb); (try clear hb2); (try clear hgn); (try clear hk); (try clear hi)))
                          subst hji52
                          go_meet
                          case rel => exact ⟨_, ((t140 != t141)), (by first | rfl | (simp; done) | (simp [*]; done)), H', ⟨by have := HJ5.out; have := HJ11.out; first | omega | exact Nat.le_refl _⟩, ⟨by repeat (first | (with_reducible first | exact HB.out | apply below_alloc | apply pw_below_drewN | apply below_drew1) | exact HB.out)⟩⟩
                        · replace c56 := Bool.eq_false_iff.mpr c56
                          subst c56
                          have H1 : (watchkeeperlaw13_VoteMore.j2 kj11 a0 l1 t125 (ji52) false) = some r := by rw [if_neg (show ¬ (false = true) by decide)] at H; exact H
                          clear H
                          have H := H1
                          clear H1
                          have H' := Aside0.mk H
                          clear H
                          go_wp2_with (first | ((with_reducible refine gate_callee (f := 13) rfl ?_); refine goesL_ (some 43) rfl rfl Try.func13 (by kernel_rfl) rfl #[.int .i64 a0, .slice A1 l1.length c1] rfl (by (try simp only [List.map_toArray, List.map_cons, List.map_nil]); first | done | rfl | (simp only [List.length_drop, List.length_take]; rfl)) ?_; (with_reducible refine (vote_Trips.calls a0 _ _ l1 false _ ?side1 ?side2 A30.out).mono ?_); (case side1 => repeat (first | exact (Kd.C_below HR1.out HB.out) | (with_reducible refine Kd.C_alloc ?_ _) | (with_reducible refine Kd.C_drewN ?_ _) | (with_reducible refine Kd.C_drew ?_))); (case side2 => exact HC1.out); rintro e w63 ⟨rfl, hb⟩; refine ⟨_, rfl, ?_⟩; have n0_ := Aside0.mk (Kd.R_below (by (with_reducible repeat (first | apply Kd.R_alloc | apply Kd.R_drewN | apply Kd.R_drew)); exact HO_11.out) hb); have n1_ := Aside0.mk (below_step (by repeat (first | (with_reducible first | exact HB.out | apply below_alloc | apply pw_below_drewN | apply below_drew1) | exact HB.out)) hb); clear HO_11; clear HB; have HO_11 := n0_; have HB := n1_; clear n0_ n1_; (try clear hb); (try clear hb2); (try clear hgn); (try clear hk); (try clear hi); have p139 : 0 ≤ ((ji52) : Int) := of_decide_eq_true (by first | (with_reducible assumption) | assumption); have q139 : (ji52) < (l1.length : Int) := of_decide_eq_true (by first | (with_reducible assumption) | assumption); obtain ⟨ad139, e139, hx139_0, hx139_1, hx139_2⟩ := at_T29 HR1.out (ji52) p139 q139; (try rw [← Nbq55.out] at hx139_0); (try rw [← Nbq55.out] at hx139_1); (try rw [← Nbq55.out] at hx139_2); cases e139; replace hx139_0 := (HB.out.cell (World.block_lt_of_cell? w _ hx139_0)).trans hx139_0; replace hx139_1 := (HB.out.cell (World.block_lt_of_cell? w _ hx139_1)).trans hx139_1; replace hx139_2 := (HB.out.cell (World.block_lt_of_cell? w _ hx139_2)).trans hx139_2; replace p139 := eq_true p139; replace q139 := eq_true q139))
                          subst hji52
                          go_meet
                          case rel => exact ⟨_, (false), (by first | rfl | (simp; done) | (simp [*]; done)), H', ⟨by have := HJ5.out; have := HJ11.out; first | omega | exact Nat.le_refl _⟩, ⟨by repeat (first | (with_reducible first | exact HB.out | apply below_alloc | apply pw_below_drewN | apply below_drew1) | exact HB.out)⟩⟩
                      · rw [if_neg c54] at H
                        exact absurd H (by simp)
                    · rw [if_neg c53] at H
                      exact absurd H (by simp)
                case rest =>
                  clear HC29
                  try clear c1
                  try clear p1
                  try clear q1
                  try clear hx1
                  try clear c2
                  try clear p2
                  try clear q2
                  try clear hx2
                  try clear c3
                  try clear q3
                  try clear c4
                  try clear c5
                  try clear q5
                  try clear p6
                  try clear c8
                  try clear c8b0
                  try clear c8b1
                  try clear c9
                  try clear c10
                  try clear c10b0
                  try clear c10b1
                  try clear c10b2
                  try clear c11
                  try clear c13
                  try clear p13
                  try clear q13
                  try clear hx13
                  try clear c16
                  try clear c18
                  try clear c18b0
                  try clear c19
                  try clear c19b0
                  try clear c20
                  try clear p20
                  try clear q20
                  try clear hx20
                  try clear hf20
                  try clear c21
                  try clear hx21
                  try clear hf21
                  try clear c24
                  try clear c24b0
                  try clear c25
                  try clear c25b0
                  try clear c26
                  try clear p26
                  try clear q26
                  try clear hx26
                  try clear hf26
                  try clear c27
                  try clear hx27
                  try clear hf27
                  try clear c31
                  try clear c33
                  try clear c35
                  try clear c35b0
                  try clear c36
                  try clear c36b0
                  try clear q37
                  try clear c38
                  try clear c53
                  try clear c53b0
                  try clear c54
                  try clear c54b0
                  try clear q55
                  try clear c56
                  try clear hx136_0
                  try clear hx136_1
                  try clear hx136_2
                  try clear hx139_0
                  try clear hx139_1
                  try clear hx139_2
                  try clear hx20_0
                  try clear hx20_1
                  try clear hx20_2
                  try clear hx21_1
                  try clear hx26_0
                  try clear hx26_1
                  try clear hx26_2
                  try clear hx27_0
                  try clear p136
                  try clear p139
                  try clear p2
                  try clear p20
                  try clear p26
                  try clear p6
                  try clear q136
                  try clear q139
                  try clear q2
                  try clear q20
                  try clear q26
                  obtain ⟨kq, x65_28, rfl, HA, HJ28, HB⟩ := hcut
                  cases kq with
                  | zero => exact absurd HA.out (by simp [watchkeeperlaw13_VoteMore.j2])
                  | succ kj28 =>
                    have H := HA.out
                    clear HA
                    simp only [watchkeeperlaw13_VoteMore.j2] at H
                    by_cases c64 : x65_28 = true
                    · subst c64
                      have H1 : (some false) = some r := by rw [if_pos rfl] at H; exact H
                      clear H
                      have H := H1
                      clear H1
                      obtain rfl := Option.some.inj H
                      go_wp2
                      go_ret
                      exact ⟨by first | rfl | (simp [errW_none, errW_some] <;> rfl) | (simp [*, errW_none, errW_some] <;> rfl), by repeat (first | (with_reducible first | exact HB.out | apply below_alloc | apply pw_below_drewN | apply below_drew1) | exact HB.out)⟩
                    · replace c64 := Bool.eq_false_iff.mpr c64
                      subst c64
                      have H1 : (if a0 > 1 then ((vote_Trips.f a0 l1).bind fun t142 => (if t142 = true then ((vote_Trips.f (wrap64 (a0 - 1)) l1).bind fun t143 => (watchkeeperlaw13_VoteMore.j3 kj28 a0 l1 t125 (Int.tmod (wrap64 (a2)) (l1.length : Int)) (!t143))) else (watchkeeperlaw13_VoteMore.j3 kj28 a0 l1 t125 (Int.tmod (wrap64 (a2)) (l1.length : Int)) false))) else (watchkeeperlaw13_VoteMore.j3 kj28 a0 l1 t125 (Int.tmod (wrap64 (a2)) (l1.length : Int)) false)) = some r := by rw [if_neg (show ¬ (false = true) by decide)] at H; exact H
                      clear H
                      have H := H1
                      clear H1
                      have HC65 := Aside0.mk H
                      clear H
                      go_upto_region 11 with (fail)
                      go_cut [79] (fun v79 wc => ∃ (kq : Nat) (x79_64 : Bool), v79 = .bool x79_64 ∧ Aside0 (watchkeeperlaw13_VoteMore.j3 kq a0 l1 t125 (Int.tmod (wrap64 (a2)) (l1.length : Int)) x79_64 = some r) ∧ Aside0 (kq ≤ kj28) ∧ Aside0 (Below w.heap.size w wc))
                      case first =>
                        have H := HC65.out
                        clear HC65
                        by_cases c66 : a0 > 1
                        · rw [if_pos c66] at H
                          have c66b0 : decide (1 < a0) = true := decide_eq_true c66
                          clear c66
                          (first | rw [c66b0] | (simp only [i64_w, i32_w]; rw [c66b0]) | skip)
                          replace H := Option.bind_eq_some_iff.mp H
                          obtain ⟨t142, A670, H⟩ := H
                          replace H : (if t142 = true then ((vote_Trips.f (wrap64 (a0 - 1)) l1).bind fun t143 => (watchkeeperlaw13_VoteMore.j3 kj28 a0 l1 t125 (Int.tmod (wrap64 (a2)) (l1.length : Int)) (!t143))) else (watchkeeperlaw13_VoteMore.j3 kj28 a0 l1 t125 (Int.tmod (wrap64 (a2)) (l1.length : Int)) false)) = some r := H
                          have A67 := Aside0.mk A670
                          clear A670
                          by_cases c68 : t142 = true
                          · subst c68
                            have H1 : ((vote_Trips.f (wrap64 (a0 - 1)) l1).bind fun t143 => (watchkeeperlaw13_VoteMore.j3 kj28 a0 l1 t125 (Int.tmod (wrap64 (a2)) (l1.length : Int)) (!t143))) = some r := by rw [if_pos rfl] at H; exact H
                            clear H
                            have H := H1
                            clear H1
                            replace H := Option.bind_eq_some_iff.mp H
                            obtain ⟨t143, A690, H⟩ := H
                            replace H : (watchkeeperlaw13_VoteMore.j3 kj28 a0 l1 t125 (Int.tmod (wrap64 (a2)) (l1.length : Int)) (!t143)) = some r := H
                            have A69 := Aside0.mk A690
                            clear A690
                            have H' := Aside0.mk H
                            clear H
                            go_wp2_with fail
                            (go_at_call 13; (with_reducible refine (vote_Trips.calls a0 _ _ l1 true _ ?side1 ?side2 A67.out).mono ?_); (case side1 => repeat (first | exact (Kd.C_below HR1.out HB.out) | (with_reducible refine Kd.C_alloc ?_ _) | (with_reducible refine Kd.C_drewN ?_ _) | (with_reducible refine Kd.C_drew ?_))); (case side2 => exact HC1.out); rintro e w70 ⟨rfl, hb⟩; have n0_ := Aside0.mk (below_step (by repeat (first | (with_reducible first | exact HB.out | apply below_alloc | apply pw_below_drewN | apply below_drew1) | exact HB.out)) hb); clear HB; have HB := n0_; clear n0_; (try clear hb); (try clear hb2); (try clear hgn); (try clear hk); (try clear hi))
                            go_wp2_with fail
                            (go_at_call 13; (with_reducible refine (vote_Trips.calls (wrap64 (a0 - 1)) _ _ l1 t143 _ ?side1 ?side2 A69.out).mono ?_); (case side1 => repeat (first | exact (Kd.C_below HR1.out HB.out) | (with_reducible refine Kd.C_alloc ?_ _) | (with_reducible refine Kd.C_drewN ?_ _) | (with_reducible refine Kd.C_drew ?_))); (case side2 => exact HC1.out); rintro e w71 ⟨rfl, hb⟩; have n0_ := Aside0.mk (below_step (by repeat (first | (with_reducible first | exact HB.out | apply below_alloc | apply pw_below_drewN | apply below_drew1) | exact HB.out)) hb); clear HB; have HB := n0_; clear n0_; (try clear hb); (try clear hb2); (try clear hgn); (try clear hk); (try clear hi))
                            go_wp2_with fail
                            go_meet
                            case rel => exact ⟨_, (!t143), (by first | rfl | (simp; done) | (simp [*]; done)), H', ⟨by have := HJ5.out; have := HJ11.out; have := HJ28.out; first | omega | exact Nat.le_refl _⟩, ⟨by repeat (first | (with_reducible first | exact HB.out | apply below_alloc | apply pw_below_drewN | apply below_drew1) | exact HB.out)⟩⟩
                          · replace c68 := Bool.eq_false_iff.mpr c68
                            subst c68
                            have H1 : (watchkeeperlaw13_VoteMore.j3 kj28 a0 l1 t125 (Int.tmod (wrap64 (a2)) (l1.length : Int)) false) = some r := by rw [if_neg (show ¬ (false = true) by decide)] at H; exact H
                            clear H
                            have H := H1
                            clear H1
                            have H' := Aside0.mk H
                            clear H
                            go_wp2_with (first | (go_at_call 13; (with_reducible refine (vote_Trips.calls a0 _ _ l1 false _ ?side1 ?side2 A67.out).mono ?_); (case side1 => repeat (first | exact (Kd.C_below HR1.out HB.out) | (with_reducible refine Kd.C_alloc ?_ _) | (with_reducible refine Kd.C_drewN ?_ _) | (with_reducible refine Kd.C_drew ?_))); (case side2 => exact HC1.out); rintro e w72 ⟨rfl, hb⟩; have n0_ := Aside0.mk (below_step (by repeat (first | (with_reducible first | exact HB.out | apply below_alloc | apply pw_below_drewN | apply below_drew1) | exact HB.out)) hb); clear HB; have HB := n0_; clear n0_; (try clear hb); (try clear hb2); (try clear hgn); (try clear hk); (try clear hi)))
                            go_meet
                            case rel => exact ⟨_, (false), (by first | rfl | (simp; done) | (simp [*]; done)), H', ⟨by have := HJ5.out; have := HJ11.out; have := HJ28.out; first | omega | exact Nat.le_refl _⟩, ⟨by repeat (first | (with_reducible first | exact HB.out | apply below_alloc | apply pw_below_drewN | apply below_drew1) | exact HB.out)⟩⟩
                        · rw [if_neg c66] at H
                          have c66b0 : decide (1 < a0) = false := decide_eq_false c66
                          clear c66
                          (first | rw [c66b0] | (simp only [i64_w, i32_w]; rw [c66b0]) | skip)
                          have H' := Aside0.mk H
                          clear H
                          go_wp2
                          go_meet
                          case rel => exact ⟨_, (false), (by first | rfl | (simp; done) | (simp [*]; done)), H', ⟨by have := HJ5.out; have := HJ11.out; have := HJ28.out; first | omega | exact Nat.le_refl _⟩, ⟨by repeat (first | (with_reducible first | exact HB.out | apply below_alloc | apply pw_below_drewN | apply below_drew1) | exact HB.out)⟩⟩
                      case rest =>
                        clear HC65
                        try clear c1
                        try clear p1
                        try clear q1
                        try clear hx1
                        try clear c2
                        try clear p2
                        try clear q2
                        try clear hx2
                        try clear c3
                        try clear q3
                        try clear c4
                        try clear c5
                        try clear q5
                        try clear c6
                        try clear p6
                        try clear c8
                        try clear c8b0
                        try clear c8b1
                        try clear c9
                        try clear c10
                        try clear c10b0
                        try clear c10b1
                        try clear c10b2
                        try clear c11
                        try clear c13
                        try clear p13
                        try clear q13
                        try clear hx13
                        try clear c16
                        try clear c18
                        try clear c18b0
                        try clear c19
                        try clear c19b0
                        try clear c20
                        try clear p20
                        try clear q20
                        try clear hx20
                        try clear hf20
                        try clear c21
                        try clear hx21
                        try clear hf21
                        try clear c24
                        try clear c24b0
                        try clear c25
                        try clear c25b0
                        try clear c26
                        try clear p26
                        try clear q26
                        try clear hx26
                        try clear hf26
                        try clear c27
                        try clear hx27
                        try clear hf27
                        try clear c31
                        try clear c33
                        try clear c35
                        try clear c35b0
                        try clear c36
                        try clear c36b0
                        try clear q37
                        try clear c38
                        try clear c53
                        try clear c53b0
                        try clear c54
                        try clear c54b0
                        try clear q55
                        try clear c56
                        try clear c64
                        try clear p64
                        try clear c66
                        try clear c66b0
                        try clear c68
                        try clear hx136_0
                        try clear hx136_1
                        try clear hx136_2
                        try clear hx139_0
                        try clear hx139_1
                        try clear hx139_2
                        try clear hx20_0
                        try clear hx20_1
                        try clear hx20_2
                        try clear hx21_1
                        try clear hx26_0
                        try clear hx26_1
                        try clear hx26_2
                        try clear hx27_0
                        try clear p1
                        try clear p13
                        try clear p136
                        try clear p139
                        try clear p2
                        try clear p20
                        try clear p26
                        try clear p6
                        try clear q1
                        try clear q13
                        try clear q136
                        try clear q139
                        try clear q2
                        try clear q20
                        try clear q26
                        try clear q3
                        try clear q37
                        try clear q5
                        try clear q55
                        obtain ⟨kq, x79_64, rfl, HA, HJ64, HB⟩ := hcut
                        cases kq with
                        | zero => exact absurd HA.out (by simp [watchkeeperlaw13_VoteMore.j3])
                        | succ kj64 =>
                          have H := HA.out
                          clear HA
                          simp only [watchkeeperlaw13_VoteMore.j3] at H
                          by_cases c73 : x79_64 = true
                          · subst c73
                            have H1 : (some false) = some r := by rw [if_pos rfl] at H; exact H
                            clear H
                            have H := H1
                            clear H1
                            obtain rfl := Option.some.inj H
                            go_wp2
                            go_ret
                            exact ⟨by first | rfl | (simp [errW_none, errW_some] <;> rfl) | (simp [*, errW_none, errW_some] <;> rfl), by repeat (first | (with_reducible first | exact HB.out | apply below_alloc | apply pw_below_drewN | apply below_drew1) | exact HB.out)⟩
                          · replace c73 := Bool.eq_false_iff.mpr c73
                            subst c73
                            have H1 : ((some (([] : List (S29)) : List (S29))).bind fun y144 => (if y144.length + l1.length < 46912496118442 then ((some (y144 ++ l1 : List (S29))).bind fun y147 => (if 0 ≤ (Int.tmod (wrap64 (a2)) (l1.length : Int)) then (if (Int.tmod (wrap64 (a2)) (l1.length : Int)) < (y147.length : Int) then ((some (y147.set ((Int.tmod (wrap64 (a2)) (l1.length : Int)) : Int).toNat (⟨false, false, true⟩ : S29) : List (S29))).bind fun y150 => ((some (([] : List (S29)) : List (S29))).bind fun y151 => (if (Int.tmod (wrap64 (a2)) (l1.length : Int)) ≤ (l1.length : Int) then ((some (l1.take ((Int.tmod (wrap64 (a2)) (l1.length : Int)) : Int).toNat : List (S29))).bind fun y154 => (if y151.length + y154.length < 46912496118442 then ((some (y151 ++ y154 : List (S29))).bind fun y158 => (if 0 ≤ (wrap64 ((Int.tmod (wrap64 (a2)) (l1.length : Int)) + 1)) then (if (wrap64 ((Int.tmod (wrap64 (a2)) (l1.length : Int)) + 1)) ≤ (l1.length : Int) then ((some (l1.drop ((wrap64 ((Int.tmod (wrap64 (a2)) (l1.length : Int)) + 1)) : Int).toNat : List (S29))).bind fun y161 => (if y158.length + y161.length < 46912496118442 then ((some (y158 ++ y161 : List (S29))).bind fun y165 => (if t125 = true then ((vote_Trips.f a0 y150).bind fun t168 => ((vote_Trips.f a0 y165).bind fun t169 => (if (t168 == t169) = true then ((vote_Yes.f y150).bind fun t170 => ((vote_Yes.f y165).bind fun t171 => (if t170 = t171 then ((vote_Need.f a0 y150).bind fun t172 => ((vote_Need.f a0 y165).bind fun t173 => (if t172 = t173 then ((vote_Healthy.f a0 y150).bind fun t174 => (some (!t174))) else (some false)))) else (some false)))) else (some false)))) else (some false))) else (none))) else (none)) else (none))) else (none))) else (none)))) else (none)) else (none))) else (none))) = some r := by rw [if_neg (show ¬ (false = true) by decide)] at H; exact H
                            clear H
                            have H := H1
                            clear H1
                            obtain ⟨y144, hy144⟩ : ∃ y_ : List (S29), y_ = (([] : List (S29))) := ⟨_, rfl⟩
                            replace H : (if y144.length + l1.length < 46912496118442 then ((some (y144 ++ l1 : List (S29))).bind fun y147 => (if 0 ≤ (Int.tmod (wrap64 (a2)) (l1.length : Int)) then (if (Int.tmod (wrap64 (a2)) (l1.length : Int)) < (y147.length : Int) then ((some (y147.set ((Int.tmod (wrap64 (a2)) (l1.length : Int)) : Int).toNat (⟨false, false, true⟩ : S29) : List (S29))).bind fun y150 => ((some (([] : List (S29)) : List (S29))).bind fun y151 => (if (Int.tmod (wrap64 (a2)) (l1.length : Int)) ≤ (l1.length : Int) then ((some (l1.take ((Int.tmod (wrap64 (a2)) (l1.length : Int)) : Int).toNat : List (S29))).bind fun y154 => (if y151.length + y154.length < 46912496118442 then ((some (y151 ++ y154 : List (S29))).bind fun y158 => (if 0 ≤ (wrap64 ((Int.tmod (wrap64 (a2)) (l1.length : Int)) + 1)) then (if (wrap64 ((Int.tmod (wrap64 (a2)) (l1.length : Int)) + 1)) ≤ (l1.length : Int) then ((some (l1.drop ((wrap64 ((Int.tmod (wrap64 (a2)) (l1.length : Int)) + 1)) : Int).toNat : List (S29))).bind fun y161 => (if y158.length + y161.length < 46912496118442 then ((some (y158 ++ y161 : List (S29))).bind fun y165 => (if t125 = true then ((vote_Trips.f a0 y150).bind fun t168 => ((vote_Trips.f a0 y165).bind fun t169 => (if (t168 == t169) = true then ((vote_Yes.f y150).bind fun t170 => ((vote_Yes.f y165).bind fun t171 => (if t170 = t171 then ((vote_Need.f a0 y150).bind fun t172 => ((vote_Need.f a0 y165).bind fun t173 => (if t172 = t173 then ((vote_Healthy.f a0 y150).bind fun t174 => (some (!t174))) else (some false)))) else (some false)))) else (some false)))) else (some false))) else (none))) else (none)) else (none))) else (none))) else (none)))) else (none)) else (none))) else (none)) = some r := by first | (rw [hy144]; with_reducible exact H) | (have H2_ := (Option.bind_some _ _).symm.trans H; rw [hy144]; with_reducible exact H2_) | (have H2_ := (Option.bind_some _ _).symm.trans H; with_reducible exact H2_) | with_reducible exact H | (rw [hy144]; exact H) | exact H
                            have Ny144 := Aside0.mk hy144
                            clear hy144
                            by_cases c74 : y144.length + l1.length < 46912496118442
                            · rw [if_pos c74] at H
                              have LMc74 := Aside0.mk c74
                              clear c74
                              obtain ⟨y147, hy147⟩ : ∃ y_ : List (S29), y_ = (y144 ++ l1) := ⟨_, rfl⟩
                              replace H : (if 0 ≤ (Int.tmod (wrap64 (a2)) (l1.length : Int)) then (if (Int.tmod (wrap64 (a2)) (l1.length : Int)) < (y147.length : Int) then ((some (y147.set ((Int.tmod (wrap64 (a2)) (l1.length : Int)) : Int).toNat (⟨false, false, true⟩ : S29) : List (S29))).bind fun y150 => ((some (([] : List (S29)) : List (S29))).bind fun y151 => (if (Int.tmod (wrap64 (a2)) (l1.length : Int)) ≤ (l1.length : Int) then ((some (l1.take ((Int.tmod (wrap64 (a2)) (l1.length : Int)) : Int).toNat : List (S29))).bind fun y154 => (if y151.length + y154.length < 46912496118442 then ((some (y151 ++ y154 : List (S29))).bind fun y158 => (if 0 ≤ (wrap64 ((Int.tmod (wrap64 (a2)) (l1.length : Int)) + 1)) then (if (wrap64 ((Int.tmod (wrap64 (a2)) (l1.length : Int)) + 1)) ≤ (l1.length : Int) then ((some (l1.drop ((wrap64 ((Int.tmod (wrap64 (a2)) (l1.length : Int)) + 1)) : Int).toNat : List (S29))).bind fun y161 => (if y158.length + y161.length < 46912496118442 then ((some (y158 ++ y161 : List (S29))).bind fun y165 => (if t125 = true then ((vote_Trips.f a0 y150).bind fun t168 => ((vote_Trips.f a0 y165).bind fun t169 => (if (t168 == t169) = true then ((vote_Yes.f y150).bind fun t170 => ((vote_Yes.f y165).bind fun t171 => (if t170 = t171 then ((vote_Need.f a0 y150).bind fun t172 => ((vote_Need.f a0 y165).bind fun t173 => (if t172 = t173 then ((vote_Healthy.f a0 y150).bind fun t174 => (some (!t174))) else (some false)))) else (some false)))) else (some false)))) else (some false))) else (none))) else (none)) else (none))) else (none))) else (none)))) else (none)) else (none)) = some r := by first | (rw [hy147]; with_reducible exact H) | (have H2_ := (Option.bind_some _ _).symm.trans H; rw [hy147]; with_reducible exact H2_) | (have H2_ := (Option.bind_some _ _).symm.trans H; with_reducible exact H2_) | with_reducible exact H | (rw [hy147]; exact H) | exact H
                              have Ny147 := Aside0.mk hy147
                              clear hy147
                              obtain ⟨ji75, hji75⟩ : ∃ j_ : Int, (Int.tmod (wrap64 (a2)) (l1.length : Int)) = j_ := ⟨_, rfl⟩
                              replace H : (if 0 ≤ (ji75) then (if (ji75) < (y147.length : Int) then ((some (y147.set ((ji75) : Int).toNat (⟨false, false, true⟩ : S29) : List (S29))).bind fun y150 => ((some (([] : List (S29)) : List (S29))).bind fun y151 => (if (ji75) ≤ (l1.length : Int) then ((some (l1.take ((ji75) : Int).toNat : List (S29))).bind fun y154 => (if y151.length + y154.length < 46912496118442 then ((some (y151 ++ y154 : List (S29))).bind fun y158 => (if 0 ≤ (wrap64 ((ji75) + 1)) then (if (wrap64 ((ji75) + 1)) ≤ (l1.length : Int) then ((some (l1.drop ((wrap64 ((ji75) + 1)) : Int).toNat : List (S29))).bind fun y161 => (if y158.length + y161.length < 46912496118442 then ((some (y158 ++ y161 : List (S29))).bind fun y165 => (if t125 = true then ((vote_Trips.f a0 y150).bind fun t168 => ((vote_Trips.f a0 y165).bind fun t169 => (if (t168 == t169) = true then ((vote_Yes.f y150).bind fun t170 => ((vote_Yes.f y165).bind fun t171 => (if t170 = t171 then ((vote_Need.f a0 y150).bind fun t172 => ((vote_Need.f a0 y165).bind fun t173 => (if t172 = t173 then ((vote_Healthy.f a0 y150).bind fun t174 => (some (!t174))) else (some false)))) else (some false)))) else (some false)))) else (some false))) else (none))) else (none)) else (none))) else (none))) else (none)))) else (none)) else (none)) = some r := by first | (rw [hji75] at H; exact H) | (simp only [hji75] at H ⊢; exact H)
                              by_cases c76 : 0 ≤ (ji75)
                              · rw [if_pos c76] at H
                                have c76b0 : decide (0 ≤ (ji75)) = true := decide_eq_true c76
                                clear c76
                                by_cases c77 : (ji75) < (y147.length : Int)
                                · rw [if_pos c77] at H
                                  have c77b0 : decide ((ji75) < (y147.length : Int)) = true := decide_eq_true c77
                                  clear c77
                                  obtain ⟨y150, hy150⟩ : ∃ y_ : List (S29), y_ = (y147.set ((ji75) : Int).toNat (⟨false, false, true⟩ : S29)) := ⟨_, rfl⟩
                                  replace H : ((some (([] : List (S29)) : List (S29))).bind fun y151 => (if (ji75) ≤ (l1.length : Int) then ((some (l1.take ((ji75) : Int).toNat : List (S29))).bind fun y154 => (if y151.length + y154.length < 46912496118442 then ((some (y151 ++ y154 : List (S29))).bind fun y158 => (if 0 ≤ (wrap64 ((ji75) + 1)) then (if (wrap64 ((ji75) + 1)) ≤ (l1.length : Int) then ((some (l1.drop ((wrap64 ((ji75) + 1)) : Int).toNat : List (S29))).bind fun y161 => (if y158.length + y161.length < 46912496118442 then ((some (y158 ++ y161 : List (S29))).bind fun y165 => (if t125 = true then ((vote_Trips.f a0 y150).bind fun t168 => ((vote_Trips.f a0 y165).bind fun t169 => (if (t168 == t169) = true then ((vote_Yes.f y150).bind fun t170 => ((vote_Yes.f y165).bind fun t171 => (if t170 = t171 then ((vote_Need.f a0 y150).bind fun t172 => ((vote_Need.f a0 y165).bind fun t173 => (if t172 = t173 then ((vote_Healthy.f a0 y150).bind fun t174 => (some (!t174))) else (some false)))) else (some false)))) else (some false)))) else (some false))) else (none))) else (none)) else (none))) else (none))) else (none))) = some r := by first | (rw [hy150]; with_reducible exact H) | (have H2_ := (Option.bind_some _ _).symm.trans H; rw [hy150]; with_reducible exact H2_) | (have H2_ := (Option.bind_some _ _).symm.trans H; with_reducible exact H2_) | with_reducible exact H | (rw [hy150]; exact H) | exact H
                                  have Ny150 := Aside0.mk hy150
                                  clear hy150
                                  obtain ⟨y151, hy151⟩ : ∃ y_ : List (S29), y_ = (([] : List (S29))) := ⟨_, rfl⟩
                                  replace H : (if (ji75) ≤ (l1.length : Int) then ((some (l1.take ((ji75) : Int).toNat : List (S29))).bind fun y154 => (if y151.length + y154.length < 46912496118442 then ((some (y151 ++ y154 : List (S29))).bind fun y158 => (if 0 ≤ (wrap64 ((ji75) + 1)) then (if (wrap64 ((ji75) + 1)) ≤ (l1.length : Int) then ((some (l1.drop ((wrap64 ((ji75) + 1)) : Int).toNat : List (S29))).bind fun y161 => (if y158.length + y161.length < 46912496118442 then ((some (y158 ++ y161 : List (S29))).bind fun y165 => (if t125 = true then ((vote_Trips.f a0 y150).bind fun t168 => ((vote_Trips.f a0 y165).bind fun t169 => (if (t168 == t169) = true then ((vote_Yes.f y150).bind fun t170 => ((vote_Yes.f y165).bind fun t171 => (if t170 = t171 then ((vote_Need.f a0 y150).bind fun t172 => ((vote_Need.f a0 y165).bind fun t173 => (if t172 = t173 then ((vote_Healthy.f a0 y150).bind fun t174 => (some (!t174))) else (some false)))) else (some false)))) else (some false)))) else (some false))) else (none))) else (none)) else (none))) else (none))) else (none)) = some r := by first | (rw [hy151]; with_reducible exact H) | (have H2_ := (Option.bind_some _ _).symm.trans H; rw [hy151]; with_reducible exact H2_) | (have H2_ := (Option.bind_some _ _).symm.trans H; with_reducible exact H2_) | with_reducible exact H | (rw [hy151]; exact H) | exact H
                                  have Ny151 := Aside0.mk hy151
                                  clear hy151
                                  have c79b0 := eq_true (of_decide_eq_true (by first | (with_reducible assumption) | assumption) : 0 ≤ (ji75))
                                  by_cases c80 : (ji75) ≤ (l1.length : Int)
                                  · rw [if_pos c80] at H
                                    have c80b0 := eq_true c80
                                    have c80b1 : decide ((ji75) ≤ (l1.length : Int)) = true := decide_eq_true c80
                                    clear c80
                                    obtain ⟨y154, hy154⟩ : ∃ y_ : List (S29), y_ = (l1.take ((ji75) : Int).toNat) := ⟨_, rfl⟩
                                    replace H : (if y151.length + y154.length < 46912496118442 then ((some (y151 ++ y154 : List (S29))).bind fun y158 => (if 0 ≤ (wrap64 ((ji75) + 1)) then (if (wrap64 ((ji75) + 1)) ≤ (l1.length : Int) then ((some (l1.drop ((wrap64 ((ji75) + 1)) : Int).toNat : List (S29))).bind fun y161 => (if y158.length + y161.length < 46912496118442 then ((some (y158 ++ y161 : List (S29))).bind fun y165 => (if t125 = true then ((vote_Trips.f a0 y150).bind fun t168 => ((vote_Trips.f a0 y165).bind fun t169 => (if (t168 == t169) = true then ((vote_Yes.f y150).bind fun t170 => ((vote_Yes.f y165).bind fun t171 => (if t170 = t171 then ((vote_Need.f a0 y150).bind fun t172 => ((vote_Need.f a0 y165).bind fun t173 => (if t172 = t173 then ((vote_Healthy.f a0 y150).bind fun t174 => (some (!t174))) else (some false)))) else (some false)))) else (some false)))) else (some false))) else (none))) else (none)) else (none))) else (none)) = some r := by first | (rw [hy154]; with_reducible exact H) | (have H2_ := (Option.bind_some _ _).symm.trans H; rw [hy154]; with_reducible exact H2_) | (have H2_ := (Option.bind_some _ _).symm.trans H; with_reducible exact H2_) | with_reducible exact H | (rw [hy154]; exact H) | exact H
                                    have Ny154 := Aside0.mk hy154
                                    clear hy154
                                    by_cases c81 : y151.length + y154.length < 46912496118442
                                    · rw [if_pos c81] at H
                                      have LMc81 := Aside0.mk c81
                                      clear c81
                                      obtain ⟨y158, hy158⟩ : ∃ y_ : List (S29), y_ = (y151 ++ y154) := ⟨_, rfl⟩
                                      replace H : (if 0 ≤ (wrap64 ((ji75) + 1)) then (if (wrap64 ((ji75) + 1)) ≤ (l1.length : Int) then ((some (l1.drop ((wrap64 ((ji75) + 1)) : Int).toNat : List (S29))).bind fun y161 => (if y158.length + y161.length < 46912496118442 then ((some (y158 ++ y161 : List (S29))).bind fun y165 => (if t125 = true then ((vote_Trips.f a0 y150).bind fun t168 => ((vote_Trips.f a0 y165).bind fun t169 => (if (t168 == t169) = true then ((vote_Yes.f y150).bind fun t170 => ((vote_Yes.f y165).bind fun t171 => (if t170 = t171 then ((vote_Need.f a0 y150).bind fun t172 => ((vote_Need.f a0 y165).bind fun t173 => (if t172 = t173 then ((vote_Healthy.f a0 y150).bind fun t174 => (some (!t174))) else (some false)))) else (some false)))) else (some false)))) else (some false))) else (none))) else (none)) else (none)) = some r := by first | (rw [hy158]; with_reducible exact H) | (have H2_ := (Option.bind_some _ _).symm.trans H; rw [hy158]; with_reducible exact H2_) | (have H2_ := (Option.bind_some _ _).symm.trans H; with_reducible exact H2_) | with_reducible exact H | (rw [hy158]; exact H) | exact H
                                      have Ny158 := Aside0.mk hy158
                                      clear hy158
                                      obtain ⟨ji82, hji82⟩ : ∃ j_ : Int, (wrap64 ((ji75) + 1)) = j_ := ⟨_, rfl⟩
                                      replace H : (if 0 ≤ (ji82) then (if (ji82) ≤ (l1.length : Int) then ((some (l1.drop ((ji82) : Int).toNat : List (S29))).bind fun y161 => (if y158.length + y161.length < 46912496118442 then ((some (y158 ++ y161 : List (S29))).bind fun y165 => (if t125 = true then ((vote_Trips.f a0 y150).bind fun t168 => ((vote_Trips.f a0 y165).bind fun t169 => (if (t168 == t169) = true then ((vote_Yes.f y150).bind fun t170 => ((vote_Yes.f y165).bind fun t171 => (if t170 = t171 then ((vote_Need.f a0 y150).bind fun t172 => ((vote_Need.f a0 y165).bind fun t173 => (if t172 = t173 then ((vote_Healthy.f a0 y150).bind fun t174 => (some (!t174))) else (some false)))) else (some false)))) else (some false)))) else (some false))) else (none))) else (none)) else (none)) = some r := by first | (rw [hji82] at H; exact H) | (simp only [hji82] at H ⊢; exact H)
                                      have hji82w : (IntKind.i64.wrap ((ji75) + 1)) = ji82 := (i64_w _).trans hji82
                                      by_cases c83 : 0 ≤ (ji82)
                                      · rw [if_pos c83] at H
                                        have c83b0 := eq_true c83
                                        have c83b1 : decide (0 ≤ (ji82)) = true := decide_eq_true c83
                                        clear c83
                                        by_cases c84 : (ji82) ≤ (l1.length : Int)
                                        · rw [if_pos c84] at H
                                          have c84b0 := eq_true c84
                                          have c84b1 : decide ((ji82) ≤ (l1.length : Int)) = true := decide_eq_true c84
                                          clear c84
                                          obtain ⟨y161, hy161⟩ : ∃ y_ : List (S29), y_ = (l1.drop ((ji82) : Int).toNat) := ⟨_, rfl⟩
                                          replace H : (if y158.length + y161.length < 46912496118442 then ((some (y158 ++ y161 : List (S29))).bind fun y165 => (if t125 = true then ((vote_Trips.f a0 y150).bind fun t168 => ((vote_Trips.f a0 y165).bind fun t169 => (if (t168 == t169) = true then ((vote_Yes.f y150).bind fun t170 => ((vote_Yes.f y165).bind fun t171 => (if t170 = t171 then ((vote_Need.f a0 y150).bind fun t172 => ((vote_Need.f a0 y165).bind fun t173 => (if t172 = t173 then ((vote_Healthy.f a0 y150).bind fun t174 => (some (!t174))) else (some false)))) else (some false)))) else (some false)))) else (some false))) else (none)) = some r := by first | (rw [hy161]; with_reducible exact H) | (have H2_ := (Option.bind_some _ _).symm.trans H; rw [hy161]; with_reducible exact H2_) | (have H2_ := (Option.bind_some _ _).symm.trans H; with_reducible exact H2_) | with_reducible exact H | (rw [hy161]; exact H) | exact H
                                          have Ny161 := Aside0.mk hy161
                                          clear hy161
                                          by_cases c85 : y158.length + y161.length < 46912496118442
                                          · rw [if_pos c85] at H
                                            have LMc85 := Aside0.mk c85
                                            clear c85
                                            obtain ⟨y165, hy165⟩ : ∃ y_ : List (S29), y_ = (y158 ++ y161) := ⟨_, rfl⟩
                                            replace H : (if t125 = true then ((vote_Trips.f a0 y150).bind fun t168 => ((vote_Trips.f a0 y165).bind fun t169 => (if (t168 == t169) = true then ((vote_Yes.f y150).bind fun t170 => ((vote_Yes.f y165).bind fun t171 => (if t170 = t171 then ((vote_Need.f a0 y150).bind fun t172 => ((vote_Need.f a0 y165).bind fun t173 => (if t172 = t173 then ((vote_Healthy.f a0 y150).bind fun t174 => (some (!t174))) else (some false)))) else (some false)))) else (some false)))) else (some false)) = some r := by first | (rw [hy165]; with_reducible exact H) | (have H2_ := (Option.bind_some _ _).symm.trans H; rw [hy165]; with_reducible exact H2_) | (have H2_ := (Option.bind_some _ _).symm.trans H; with_reducible exact H2_) | with_reducible exact H | (rw [hy165]; exact H) | exact H
                                            have Ny165 := Aside0.mk hy165
                                            clear hy165
                                            by_cases c86 : t125 = true
                                            · subst c86
                                              have H1 : ((vote_Trips.f a0 y150).bind fun t168 => ((vote_Trips.f a0 y165).bind fun t169 => (if (t168 == t169) = true then ((vote_Yes.f y150).bind fun t170 => ((vote_Yes.f y165).bind fun t171 => (if t170 = t171 then ((vote_Need.f a0 y150).bind fun t172 => ((vote_Need.f a0 y165).bind fun t173 => (if t172 = t173 then ((vote_Healthy.f a0 y150).bind fun t174 => (some (!t174))) else (some false)))) else (some false)))) else (some false)))) = some r := by rw [if_pos rfl] at H; exact H
                                              clear H
                                              have H := H1
                                              clear H1
                                              replace H := Option.bind_eq_some_iff.mp H
                                              obtain ⟨t168, A870, H⟩ := H
                                              replace H : ((vote_Trips.f a0 y165).bind fun t169 => (if (t168 == t169) = true then ((vote_Yes.f y150).bind fun t170 => ((vote_Yes.f y165).bind fun t171 => (if t170 = t171 then ((vote_Need.f a0 y150).bind fun t172 => ((vote_Need.f a0 y165).bind fun t173 => (if t172 = t173 then ((vote_Healthy.f a0 y150).bind fun t174 => (some (!t174))) else (some false)))) else (some false)))) else (some false))) = some r := H
                                              have A87 := Aside0.mk A870
                                              clear A870
                                              replace H := Option.bind_eq_some_iff.mp H
                                              obtain ⟨t169, A880, H⟩ := H
                                              replace H : (if (t168 == t169) = true then ((vote_Yes.f y150).bind fun t170 => ((vote_Yes.f y165).bind fun t171 => (if t170 = t171 then ((vote_Need.f a0 y150).bind fun t172 => ((vote_Need.f a0 y165).bind fun t173 => (if t172 = t173 then ((vote_Healthy.f a0 y150).bind fun t174 => (some (!t174))) else (some false)))) else (some false)))) else (some false)) = some r := H
                                              have A88 := Aside0.mk A880
                                              clear A880
                                              by_cases c89 : (t168 == t169) = true
                                              · rw [if_pos c89] at H
                                                have c89b0 : (t168 == t169) = true := c89
                                                (try (have c89b1 : decide (t168 = t169) = true := by simpa using c89))
                                                (try (have c89b2 : (t168 == t169) = true := by simpa using c89))
                                                clear c89
                                                replace H := Option.bind_eq_some_iff.mp H
                                                obtain ⟨t170, A900, H⟩ := H
                                                replace H : ((vote_Yes.f y165).bind fun t171 => (if t170 = t171 then ((vote_Need.f a0 y150).bind fun t172 => ((vote_Need.f a0 y165).bind fun t173 => (if t172 = t173 then ((vote_Healthy.f a0 y150).bind fun t174 => (some (!t174))) else (some false)))) else (some false))) = some r := H
                                                have A90 := Aside0.mk A900
                                                clear A900
                                                replace H := Option.bind_eq_some_iff.mp H
                                                obtain ⟨t171, A910, H⟩ := H
                                                replace H : (if t170 = t171 then ((vote_Need.f a0 y150).bind fun t172 => ((vote_Need.f a0 y165).bind fun t173 => (if t172 = t173 then ((vote_Healthy.f a0 y150).bind fun t174 => (some (!t174))) else (some false)))) else (some false)) = some r := H
                                                have A91 := Aside0.mk A910
                                                clear A910
                                                by_cases c92 : t170 = t171
                                                · rw [if_pos c92] at H
                                                  have c92b0 : (t170 == t171) = true := beq_iff_eq.mpr c92
                                                  have c92b1 : (t170 != t171) = false := bne_eq_false_iff_eq.mpr c92
                                                  clear c92
                                                  replace H := Option.bind_eq_some_iff.mp H
                                                  obtain ⟨t172, A930, H⟩ := H
                                                  replace H : ((vote_Need.f a0 y165).bind fun t173 => (if t172 = t173 then ((vote_Healthy.f a0 y150).bind fun t174 => (some (!t174))) else (some false))) = some r := H
                                                  have A93 := Aside0.mk A930
                                                  clear A930
                                                  replace H := Option.bind_eq_some_iff.mp H
                                                  obtain ⟨t173, A940, H⟩ := H
                                                  replace H : (if t172 = t173 then ((vote_Healthy.f a0 y150).bind fun t174 => (some (!t174))) else (some false)) = some r := H
                                                  have A94 := Aside0.mk A940
                                                  clear A940
                                                  by_cases c95 : t172 = t173
                                                  · rw [if_pos c95] at H
                                                    have c95b0 : (t172 == t173) = true := beq_iff_eq.mpr c95
                                                    have c95b1 : (t172 != t173) = false := bne_eq_false_iff_eq.mpr c95
                                                    clear c95
                                                    replace H := Option.bind_eq_some_iff.mp H
                                                    obtain ⟨t174, A960, H⟩ := H
                                                    replace H : (some (!t174)) = some r := H
                                                    have A96 := Aside0.mk A960
                                                    clear A960
                                                    obtain rfl := Option.some.inj H
                                                    try go_wp2_with (first | ((with_reducible refine gate_dst (N := 80) rfl ?_); (try (refine gate_guard (by rfl) ?_; dsimp only)); refine Kd.R_lit k29 _ 29 ?hg (N := 80) ?hd (xs := ([] : List (S29))) (inner := []) (ok := fun _ => True) (okp := fun _ => True) ?hr ?hp (fun _ hk => hk) trivial (Below.refl _ _) (Nat.le_refl _) (by simp) ?_; (case hd => rfl); (case hg => rfl); (case hr => first | (go_simp; done) | (go_simp; rfl)); (case hp => exact (Reps.none _ _)); intro v145 w97 ho98 hb hg_ hnew_; clear hg_ hnew_; (first | rw [← Ny144.out] at ho98 | (simp only [Int.reduceToNat] at ho98; rw [← Ny144.out] at ho98)); have n0_ := Aside0.mk (Kd.R_lower ho98 (below_size (by repeat (first | (with_reducible first | exact HB.out | apply below_alloc | apply pw_below_drewN | apply below_drew1) | exact HB.out)))); have n1_ := Aside0.mk (below_step (by repeat (first | (with_reducible first | exact HB.out | apply below_alloc | apply pw_below_drewN | apply below_drew1) | exact HB.out)) hb); clear HB; have HO146 := n0_; have HB := n1_; clear n0_ n1_; clear hb ho98) | ((with_reducible refine gate_builtin (b := .append) (xs := #[.tmp 80, .tmp 81]) rfl ?_); (try (refine gate_guard (by rfl) ?_; dsimp only)); at_builtin; refine Kd.R_append_rows k29 (w0 := w) w.heap.size rfl (.tmp 80) (.tmp 81) 22 29 (.agg #[(.bool false), (.bool false), (.bool false)]) 3 rfl Try.underlying22 info29 rfl (by decide) (by omega) v145 y144 l1 _ _ _ (fun _ => True) (fun _ => False) rfl rfl ?aO ?aR (fun _ _ h => h) (fun _ h => h.elim) ?aF ?aB ?aS ?aL ?_; (case aR => repeat (first | exact (Kd.C_below HR1.out HB.out) | (with_reducible refine Kd.C_alloc ?_ _) | (with_reducible refine Kd.C_drewN ?_ _) | (with_reducible refine Kd.C_drew ?_))); (case aB => exact (by repeat (first | (with_reducible first | exact HB.out | apply below_alloc | apply pw_below_drewN | apply below_drew1) | exact HB.out))); (case aF => exact (fun _ _ => trivial)); (case aO => exact (by (with_reducible repeat (first | apply Kd.R_alloc | apply Kd.R_drewN | apply Kd.R_drew)); exact HO146.out)); (case aS => exact (below_size (by repeat (first | (with_reducible first | exact HB.out | apply below_alloc | apply pw_below_drewN | apply below_drew1) | exact HB.out)))); (case aL => have := LMc74.out; omega); intro v148 w99 ho hb hg hat; rw [← Ny147.out] at ho; have n0_ := Aside0.mk (hb); have n1_ := Aside0.mk (ho); clear HB; clear HO146; have HB := n0_; have HO149 := n1_; clear n0_ n1_; clear ho hb hg hat; have p78 : 0 ≤ ((ji75) : Int) := of_decide_eq_true (by first | (with_reducible assumption) | assumption); have q78 : ((ji75) : Int) < ((y147.length : Int) : Int) := of_decide_eq_true (by first | (with_reducible assumption) | assumption); obtain ⟨go78, co78, eo78, gb78, gl78, cl78, HG78⟩ := Kd.R_form HO149.out (by omega); (first | cases eo78 | (injection eo78 with ea_ en_ ec_; (first | subst ea_ | (injection ea_ with ea_; subst ea_)); subst ec_; clear en_)); have GB78 := Aside0.mk gb78; have GG78 := Aside0.mk HG78; clear gb78 gl78 HG78; obtain ⟨ce78, hcl78, hM78, hcc78, hfr78⟩ := Kd.R_elem HO149.out z29 ((ji75) : Int) p78 q78; obtain rfl := k29_openM hM78; have hx78_0 : w99.cell? ⟨go78, ((ji75) : Int).toNat * 3, none⟩ = some (.bool ((rd_T29 y147 (ji75)).f0)) := hcc78 0 _ rfl; have hx78_1 : w99.cell? ⟨go78, ((ji75) : Int).toNat * 3 + 1, none⟩ = some (.bool ((rd_T29 y147 (ji75)).f1)) := hcc78 1 _ rfl; have hx78_2 : w99.cell? ⟨go78, ((ji75) : Int).toNat * 3 + 2, none⟩ = some (.bool ((rd_T29 y147 (ji75)).f2)) := hcc78 2 _ rfl; have hf78_0 : w99.frozen? ⟨go78, ((ji75) : Int).toNat * 3, none⟩ = false := hfr78 0; have hf78_1 : w99.frozen? ⟨go78, ((ji75) : Int).toNat * 3 + 1, none⟩ = false := hfr78 1; have hf78_2 : w99.frozen? ⟨go78, ((ji75) : Int).toNat * 3 + 2, none⟩ = false := hfr78 2; clear hcl78 hcc78 hfr78 hM78; replace p78 := eq_true p78; replace q78 := eq_true q78; have HX100 := Aside0.mk (show Kd.R k29 29 w99 w.heap.size (fun _ => True) (.slice (some ⟨go78, 0, none⟩) y147.length co78) y147 from (by (with_reducible repeat (first | apply Kd.R_alloc | apply Kd.R_drewN | apply Kd.R_drew)); exact HO149.out)); obtain ⟨ce100, hcl100, hM100, hcc100, hfr100⟩ := Kd.R_elem HX100.out z29 ((ji75) : Int) (of_decide_eq_true (by first | (with_reducible assumption) | assumption)) (by have h_ : ((ji75) : Int) < ((y147.length : Int) : Int) := of_decide_eq_true (by first | (with_reducible assumption) | assumption); first | exact h_ | (have e_ := (Kd.R_reads' HO149.out).1; omega) | simpa using h_); obtain rfl := k29_openM hM100; have HP100 := Kd.R_seg HX100.out ((ji75) : Int) (of_decide_eq_true (by first | (with_reducible assumption) | assumption)) (by have h_ : ((ji75) : Int) < ((y147.length : Int) : Int) := of_decide_eq_true (by first | (with_reducible assumption) | assumption); first | exact h_ | (have e_ := (Kd.R_reads' HO149.out).1; omega) | simpa using h_) (seg := [.bool false, .bool false, .bool true]) (j := 0) hcl100 hcc100 (show 3 ≤ 3 from by decide) (x' := (⟨false, false, true⟩ : S29)) (k29_mkM _ _ _ (⟨false, false, true⟩ : S29) ) (fun _ hk => hk); have hx100_0 := hcc100 0 _ rfl; (try simp only [show (k29).sz = 3 from rfl, Nat.mul_one, Nat.add_zero] at hx100_0); have hf100_0 := hfr100 0; (try simp only [show (k29).sz = 3 from rfl, Nat.mul_one, Nat.add_zero] at hf100_0); have hx100_1 := hcc100 1 _ rfl; (try simp only [show (k29).sz = 3 from rfl, Nat.mul_one, Nat.add_zero] at hx100_1); have hf100_1 := hfr100 1; (try simp only [show (k29).sz = 3 from rfl, Nat.mul_one, Nat.add_zero] at hf100_1); have hx100_2 := hcc100 2 _ rfl; (try simp only [show (k29).sz = 3 from rfl, Nat.mul_one, Nat.add_zero] at hx100_2); have hf100_2 := hfr100 2; (try simp only [show (k29).sz = 3 from rfl, Nat.mul_one, Nat.add_zero] at hf100_2); clear hcl100 hcc100 hfr100 hM100) | ((with_reducible refine gate_store (t := 29) (p := 86) rfl ?_); refine store_event (t := 29) (p := 86) (v := ?vo_w101) (w1 := (((w99.setCell ⟨go78, ((ji75) : Int).toNat * 3, none⟩ (.bool false)).setCell ⟨go78, ((ji75) : Int).toNat * 3 + 1, none⟩ (.bool false)).setCell ⟨go78, ((ji75) : Int).toNat * 3 + 2, none⟩ (.bool true))) ?hg ?ho ?hn ?hr ?_; (case ho => rfl); (case hg => rfl); (case hn => rfl); (case hr => first | (go_simp; done) | (go_simp; rfl)); intro w101 hw; have hg : w99.grownBy w101 (some go78) := (by rw [hw]; exact HP100.2); have hp_ : Kd.R k29 29 w101 w.heap.size (fun _ => True) (.slice (some ⟨go78, 0, none⟩) y147.length co78) y150 := (by rw [hw, Ny150.out]; exact HP100.1); clear HP100; have n0_ := Aside0.mk (hp_); have n1_ := Aside0.mk ((by rw [hw]; exact below_set (below_set (below_set (HB.out) GB78.out) GB78.out) GB78.out : Below w.heap.size w w101)); clear HO149; clear HB; have HO149 := n0_; have HB := n1_; clear n0_ n1_; clear hg hw hp_))
                                                    have n0_ := Aside0.mk (Kd.R_drew HO149.out)
                                                    have n1_ := Aside0.mk (below_drew1 HB.out)
                                                    clear HO149
                                                    clear HB
                                                    have HO149 := n0_
                                                    have HB := n1_
                                                    clear n0_ n1_
                                                    have q103 : ((ji75) : Int) ≤ ((l1.length : Int) : Int) := of_decide_eq_true (by first | (with_reducible assumption) | assumption)
                                                    obtain ⟨i0103, hi0103, _, hsz103, _⟩ := info_parts info29
                                                    have hroom103 : l1.length ≤ c1 := HC1.out
                                                    have hC103 : Kd.C k29 _ A1 l1.length l1 := HR1.out
                                                    have hcut103 := cut_to (P := Try.prog) 22 29 .i64 Try.underlying22 hi0103 A1 l1.length c1 (ji75) (of_decide_eq_true (by first | (with_reducible assumption) | assumption)) q103 hroom103
                                                    have hr103 := Kd.C_take (m := ((ji75) : Int).toNat) hC103 (by omega)
                                                    have hy103 : y154.length = ((ji75) : Int).toNat := (by rw [Ny154.out, List.length_take]; omega)
                                                    rw [← Ny154.out] at hr103
                                                    rw [← hy103] at hcut103
                                                    have HR157 := Aside0.mk hr103
                                                    have HC157 := Aside0.mk (show y154.length ≤ c1 from by omega)
                                                    clear hr103 hC103 hroom103 hi0103 hsz103
                                                    have KY103 := Aside0.mk hy103
                                                    clear hy103
                                                    replace q103 := eq_true q103
                                                    have q104 : ((ji82) : Int) ≤ ((l1.length : Int) : Int) := of_decide_eq_true (by first | (with_reducible assumption) | assumption)
                                                    obtain ⟨i0104, hi0104, _, hsz104, _⟩ := info_parts info29
                                                    have hroom104 : l1.length ≤ c1 := HC1.out
                                                    have hC104 : Kd.C k29 _ A1 l1.length l1 := HR1.out
                                                    have q0104 : (0 : Int) ≤ ((ji82) : Int) := of_decide_eq_true (by first | (with_reducible assumption) | assumption)
                                                    have hcut104 := cut_from (P := Try.prog) 22 29 .i64 Try.underlying22 hi0104 3 hsz104 A1 l1.length c1 (ji82) q0104 q104
                                                    have hr104 := Kd.C_drop (m := ((ji82) : Int).toNat) (c := c1) hC104 (by omega) hroom104
                                                    obtain ⟨A104, hA104⟩ : ∃ Az_, Az_ = (if c1 = ((ji82) : Int).toNat then A1 else (A1 : Option Addr).map (·.add (((ji82) : Int).toNat * 3))) := ⟨_, rfl⟩
                                                    obtain ⟨c104, hc104⟩ : ∃ cz_, cz_ = c1 - ((ji82) : Int).toNat := ⟨_, rfl⟩
                                                    have hy104 : y161.length = l1.length - ((ji82) : Int).toNat := (by rw [Ny161.out, List.length_drop] <;> omega)
                                                    rw [show (l1).drop ((ji82) : Int).toNat = y161 from Ny161.out.symm] at hr104
                                                    replace hr104 : Kd.C k29 _ A104 y161.length y161 := (by rw [hA104]; exact hr104)
                                                    rw [← hy104, ← hA104, ← hc104] at hcut104
                                                    have HR164 := Aside0.mk hr104
                                                    have HC164 := Aside0.mk (show y161.length ≤ c104 from by rw [hy104, hc104]; exact Nat.sub_le_sub_right hroom104 _)
                                                    clear hr104 hC104 hroom104 hi0104 hsz104 hc104
                                                    have KY104 := Aside0.mk hy104
                                                    have KA104 := Aside0.mk hA104
                                                    clear hy104 hA104
                                                    replace q104 := eq_true q104
                                                    refine start_ (n := 11) (S := fun w' => True) (ds := []) #[false, false, false, false, false, false, false, false, false, false, false] (by kernel_rfl) rfl rfl trivial (fun hHeld => ?_); refine with_tabW watchkeeperlaw13_VoteMore.tab15 watchkeeperlaw13_VoteMore.bits15 (fun HT_ HW_ => ?_)
                                                    generalize w101.drew = w102 at HO149 HB HR157 HR164 hHeld ⊢
                                                    refine pure_ (i := 1) (N := some 88) (v := ?_) (a' := ?_) #[false, true, false, false, false, false, false, false, false, false, false] rfl rfl (any_of HT_.out (by kernel_rfl)) (fun _ _ _ h => h) (Or.inl ⟨by rfl, ?_⟩) ?_ ?_
                                                    rotate_left
                                                    · intro w'
                                                      go_simp
                                                      with_reducible rfl
                                                    rotate_left
                                                    · simp only [Act.put, List.setIfInBounds_toArray, List.set_cons_zero, List.set_cons_succ, i64_w, i32_w]
                                                      rfl
                                                    refine pure_ (i := 2) (N := some 89) (v := ?_) (a' := ?_) #[false, true, true, false, false, false, false, false, false, false, false] rfl rfl (any_of HT_.out (by kernel_rfl)) (fun _ _ _ h => h) (Or.inl ⟨by rfl, ?_⟩) ?_ ?_
                                                    rotate_left
                                                    · intro w'
                                                      go_simp
                                                      with_reducible rfl
                                                    rotate_left
                                                    · simp only [Act.put, List.setIfInBounds_toArray, List.set_cons_zero, List.set_cons_succ, i64_w, i32_w]
                                                      rfl
                                                    refine pure_ (i := 3) (N := some 90) (v := ?_) (a' := ?_) #[false, true, true, true, false, false, false, false, false, false, false] rfl rfl (any_of HT_.out (by kernel_rfl)) (fun _ _ _ h => h) (Or.inl ⟨by rfl, ?_⟩) ?_ ?_
                                                    rotate_left
                                                    · intro w'
                                                      go_simp
                                                      with_reducible rfl
                                                    rotate_left
                                                    · simp only [Act.put, List.setIfInBounds_toArray, List.set_cons_zero, List.set_cons_succ, i64_w, i32_w]
                                                      rfl
                                                    refine pure_ (i := 5) (N := some 92) (v := ?_) (a' := ?_) #[false, true, true, true, false, true, false, false, false, false, false] rfl rfl (any_of HT_.out (by kernel_rfl)) (fun _ _ _ h => h) (Or.inl ⟨by rfl, ?_⟩) ?_ ?_
                                                    rotate_left
                                                    · intro w'
                                                      go_simp
                                                      with_reducible rfl
                                                    rotate_left
                                                    · simp only [Act.put, List.setIfInBounds_toArray, List.set_cons_zero, List.set_cons_succ, i64_w, i32_w]
                                                      rfl
                                                    refine pure_ (i := 6) (N := some 93) (v := ?_) (a' := ?_) #[false, true, true, true, false, true, true, false, false, false, false] rfl rfl (any_of HT_.out (by kernel_rfl)) (fun _ _ _ h => h) (Or.inl ⟨by rfl, ?_⟩) ?_ ?_
                                                    rotate_left
                                                    · intro w'
                                                      go_simp
                                                      with_reducible rfl
                                                    rotate_left
                                                    · simp only [Act.put, List.setIfInBounds_toArray, List.set_cons_zero, List.set_cons_succ, i64_w, i32_w]
                                                      rfl
                                                    refine pure_ (i := 7) (N := some 94) (v := ?_) (a' := ?_) #[false, true, true, true, false, true, true, true, false, false, false] rfl rfl (any_of HT_.out (by kernel_rfl)) (fun _ _ _ h => h) (Or.inl ⟨by rfl, ?_⟩) ?_ ?_
                                                    rotate_left
                                                    · intro w'
                                                      go_simp
                                                      with_reducible rfl
                                                    rotate_left
                                                    · simp only [Act.put, List.setIfInBounds_toArray, List.set_cons_zero, List.set_cons_succ, i64_w, i32_w]
                                                      rfl
                                                    refine pure_ (i := 8) (N := some 95) (v := ?_) (a' := ?_) #[false, true, true, true, false, true, true, true, true, false, false] rfl rfl (any_of HT_.out (by kernel_rfl)) (fun _ _ _ h => h) (Or.inl ⟨by rfl, ?_⟩) ?_ ?_
                                                    rotate_left
                                                    · intro w'
                                                      go_simp
                                                      with_reducible rfl
                                                    rotate_left
                                                    · simp only [Act.put, List.setIfInBounds_toArray, List.set_cons_zero, List.set_cons_succ, i64_w, i32_w]
                                                      rfl
                                                    refine one_ (i := 0) (N := some 87) #[true, true, true, true, false, true, true, true, true, false, false] rfl rfl (one_of HT_.out (by kernel_rfl)) (by decide) (fun K hK => ?_)
                                                    refine Kd.R_lit_step k29 _ 29 ?hg (N := 87) ?hd (xs := ([] : List (S29))) (inner := []) (ok := fun _ => True) (okp := fun _ => True) ?hr ?hp (fun _ hk => hk) trivial (Below.refl _ _) (Nat.le_refl _) (by simp) ?_; (case hd => rfl); (case hg => rfl); (case hr => first | (go_simp; done) | (go_simp; rfl)); (case hp => exact (Reps.none _ _))
                                                    intro v152 w105 ho106 hb hg_ hnew_
                                                    clear hg_ hnew_
                                                    (first | rw [← Ny151.out] at ho106 | (simp only [Int.reduceToNat] at ho106; rw [← Ny151.out] at ho106))
                                                    have n0_ := Aside0.mk (Kd.R_elder' (by (with_reducible repeat (first | apply Kd.R_alloc | apply Kd.R_drewN | apply Kd.R_drew)); exact HO149.out) (Kd.R_base ho106) hb)
                                                    have n1_ := Aside0.mk (Kd.R_lower (Kd.R_new' ho106 (Kd.R_lt (by (with_reducible repeat (first | apply Kd.R_alloc | apply Kd.R_drewN | apply Kd.R_drew)); exact HO149.out))) (below_size (by repeat (first | (with_reducible first | exact HB.out | apply below_alloc | apply pw_below_drewN | apply below_drew1) | exact HB.out))))
                                                    have n2_ := Aside0.mk (below_step (by repeat (first | (with_reducible first | exact HB.out | apply below_alloc | apply pw_below_drewN | apply below_drew1) | exact HB.out)) hb)
                                                    clear HO149
                                                    clear HB
                                                    have HO149 := n0_
                                                    have HO153 := n1_
                                                    have HB := n2_
                                                    clear n0_ n1_ n2_
                                                    clear hb ho106
                                                    refine hK.out _ _ trivial (fun hHeld => ?_)
                                                    clear hK K
                                                    refine norm_ (a' := ?_) ?_ ?_
                                                    rotate_left
                                                    · show Act.put _ (some 87) _ = _
                                                      simp only [Act.put, List.setIfInBounds_toArray, List.set_cons_zero, List.set_cons_succ, i64_w, i32_w]
                                                      rfl
                                                    refine one_ (i := 4) (N := some 91) #[true, true, true, true, true, true, true, true, true, false, false] rfl rfl (one_of HT_.out (by kernel_rfl)) (by decide) (fun K hK => ?_)
                                                    refine Kd.R_append_rows_step k29 (w0 := w) w.heap.size (by rfl) (.tmp 87) (.tmp 90) 22 29 (.agg #[(.bool false), (.bool false), (.bool false)]) 3 rfl Try.underlying22 info29 rfl (by decide) (by omega) v152 y151 y154 _ _ _ (fun k_ => some k_ ≠ (.slice (some ⟨go78, 0, none⟩) y147.length co78 : Value).ownBlock) (fun _ => False) rfl rfl ?aO ?aR (fun _ _ h => h) (fun _ h => h.elim) ?aF ?aB ?aS ?aL ?_
                                                    (case aR => repeat (first | exact (Kd.C_below HR157.out HB.out) | (with_reducible refine Kd.C_alloc ?_ _) | (with_reducible refine Kd.C_drewN ?_ _) | (with_reducible refine Kd.C_drew ?_)))
                                                    (case aB => exact (by repeat (first | (with_reducible first | exact HB.out | apply below_alloc | apply pw_below_drewN | apply below_drew1) | exact HB.out)))
                                                    (case aF => exact (fun k_ hk => Kd.fresh' (Kd.R_lt (by (with_reducible repeat (first | apply Kd.R_alloc | apply Kd.R_drewN | apply Kd.R_drew)); exact HO149.out)) k_ hk))
                                                    (case aO => exact (by (with_reducible repeat (first | apply Kd.R_alloc | apply Kd.R_drewN | apply Kd.R_drew)); exact Kd.R_mono HO153.out (fun _ hk => hk.2)))
                                                    (case aS => exact (below_size (by repeat (first | (with_reducible first | exact HB.out | apply below_alloc | apply pw_below_drewN | apply below_drew1) | exact HB.out))))
                                                    (case aL => have := LMc81.out; omega)
                                                    intro v159 w107 ho hb hg hat
                                                    rw [← Ny158.out] at ho
                                                    have n0_ := Aside0.mk (Kd.R_after (ok := (fun _ => True)) (by (with_reducible repeat (first | apply Kd.R_alloc | apply Kd.R_drewN | apply Kd.R_drew)); exact HO149.out) hg hat)
                                                    have n1_ := Aside0.mk (hb)
                                                    have n2_ := Aside0.mk (ho)
                                                    clear HO149
                                                    clear HB
                                                    clear HO153
                                                    have HO149 := n0_
                                                    have HB := n1_
                                                    have HO160 := n2_
                                                    clear n0_ n1_ n2_
                                                    clear ho hb hg hat
                                                    refine hK.out _ _ trivial (fun hHeld => ?_)
                                                    clear hK K
                                                    refine norm_ (a' := ?_) ?_ ?_
                                                    rotate_left
                                                    · show Act.put _ (some 91) _ = _
                                                      simp only [Act.put, List.setIfInBounds_toArray, List.set_cons_zero, List.set_cons_succ, i64_w, i32_w]
                                                      rfl
                                                    refine one_ (i := 9) (N := some 96) #[true, true, true, true, true, true, true, true, true, true, false] rfl rfl (one_of HT_.out (by kernel_rfl)) (by decide) (fun K hK => ?_)
                                                    refine Kd.R_append_rows_step k29 (w0 := w) w.heap.size (by rfl) (.tmp 91) (.tmp 95) 22 29 (.agg #[(.bool false), (.bool false), (.bool false)]) 3 rfl Try.underlying22 info29 rfl (by decide) (by omega) v159 y158 y161 _ _ _ (fun k_ => some k_ ≠ (.slice (some ⟨go78, 0, none⟩) y147.length co78 : Value).ownBlock) (fun _ => False) rfl rfl ?aO ?aR (fun _ _ h => h) (fun _ h => h.elim) ?aF ?aB ?aS ?aL ?_
                                                    (case aR => repeat (first | exact (Kd.C_below HR164.out HB.out) | (with_reducible refine Kd.C_alloc ?_ _) | (with_reducible refine Kd.C_drewN ?_ _) | (with_reducible refine Kd.C_drew ?_)))
                                                    (case aB => exact (by repeat (first | (with_reducible first | exact HB.out | apply below_alloc | apply pw_below_drewN | apply below_drew1) | exact HB.out)))
                                                    (case aF => exact (fun k_ hk => Kd.fresh' (Kd.R_lt (by (with_reducible repeat (first | apply Kd.R_alloc | apply Kd.R_drewN | apply Kd.R_drew)); exact HO149.out)) k_ hk))
                                                    (case aO => exact (by (with_reducible repeat (first | apply Kd.R_alloc | apply Kd.R_drewN | apply Kd.R_drew)); exact HO160.out))
                                                    (case aS => exact (below_size (by repeat (first | (with_reducible first | exact HB.out | apply below_alloc | apply pw_below_drewN | apply below_drew1) | exact HB.out))))
                                                    (case aL => have := LMc85.out; omega)
                                                    intro v166 w108 ho hb hg hat
                                                    rw [← Ny165.out] at ho
                                                    have n0_ := Aside0.mk (Kd.R_after (ok := (fun _ => True)) (by (with_reducible repeat (first | apply Kd.R_alloc | apply Kd.R_drewN | apply Kd.R_drew)); exact HO149.out) hg hat)
                                                    have n1_ := Aside0.mk (hb)
                                                    have n2_ := Aside0.mk (ho)
                                                    clear HO149
                                                    clear HB
                                                    clear HO160
                                                    have HO149 := n0_
                                                    have HB := n1_
                                                    have HO167 := n2_
                                                    clear n0_ n1_ n2_
                                                    clear ho hb hg hat
                                                    refine hK.out _ _ trivial (fun hHeld => ?_)
                                                    clear hK K
                                                    refine norm_ (a' := ?_) ?_ ?_
                                                    rotate_left
                                                    · show Act.put _ (some 96) _ = _
                                                      simp only [Act.put, List.setIfInBounds_toArray, List.set_cons_zero, List.set_cons_succ, i64_w, i32_w]
                                                      rfl
                                                    refine pure_ (i := 10) (N := some 13) (v := ?_) (a' := ?_) #[true, true, true, true, true, true, true, true, true, true, true] rfl rfl (any_of HT_.out (by kernel_rfl)) (fun _ _ _ h => h) (Or.inl ⟨by rfl, ?_⟩) ?_ ?_
                                                    rotate_left
                                                    · intro w'
                                                      go_simp
                                                      with_reducible rfl
                                                    rotate_left
                                                    · simp only [Act.put, List.setIfInBounds_toArray, List.set_cons_zero, List.set_cons_succ, i64_w, i32_w]
                                                      rfl
                                                    refine done_ (done_of HT_.out (by kernel_rfl)) ?_
                                                    try go_wp2_with (first | (go_at_call 13; refine calls_of_args (args' := #[.int .i64 a0, .slice (some ⟨go78, 0, none⟩) y150.length co78]) (by first | (rw [show y150.length = y147.length from (Kd.R_reads' HO149.out).1.symm] <;> rfl) | rfl) ?_; (with_reducible refine (vote_Trips.calls a0 _ _ y150 t168 _ ?side1 ?side2 A87.out).mono ?_); (case side1 => repeat (first | exact (Kd.R_reads' HO149.out).2.2 | (with_reducible refine Kd.C_alloc ?_ _) | (with_reducible refine Kd.C_drewN ?_ _) | (with_reducible refine Kd.C_drew ?_))); (case side2 => rw [show y150.length = y147.length from (Kd.R_reads' HO149.out).1.symm]; exact (Kd.R_reads' HO149.out).2.1); rintro e w109 ⟨rfl, hb⟩; have n0_ := Aside0.mk (Kd.R_below (by (with_reducible repeat (first | apply Kd.R_alloc | apply Kd.R_drewN | apply Kd.R_drew)); exact HO149.out) hb); have n1_ := Aside0.mk (Kd.R_below (by (with_reducible repeat (first | apply Kd.R_alloc | apply Kd.R_drewN | apply Kd.R_drew)); exact HO167.out) hb); have n2_ := Aside0.mk (below_step (by repeat (first | (with_reducible first | exact HB.out | apply below_alloc | apply pw_below_drewN | apply below_drew1) | exact HB.out)) hb); clear HO149; clear HO167; clear HB; have HO149 := n0_; have HO167 := n1_; have HB := n2_; clear n0_ n1_ n2_; (try clear hb); (try clear hb2); (try clear hgn); (try clear hk); (try clear hi); obtain ⟨Ao110, co110, eo110⟩ := Kd.R_slice HO167.out; subst eo110) | (go_at_call 13; (with_reducible refine (vote_Trips.calls a0 _ _ y165 t169 _ ?side1 ?side2 A88.out).mono ?_); (case side1 => repeat (first | exact (Kd.R_reads' HO167.out).2.2 | (with_reducible refine Kd.C_alloc ?_ _) | (with_reducible refine Kd.C_drewN ?_ _) | (with_reducible refine Kd.C_drew ?_))); (case side2 => exact (Kd.R_reads' HO167.out).2.1); rintro e w111 ⟨rfl, hb⟩; have n0_ := Aside0.mk (Kd.R_below (by (with_reducible repeat (first | apply Kd.R_alloc | apply Kd.R_drewN | apply Kd.R_drew)); exact HO149.out) hb); have n1_ := Aside0.mk (Kd.R_below (by (with_reducible repeat (first | apply Kd.R_alloc | apply Kd.R_drewN | apply Kd.R_drew)); exact HO167.out) hb); have n2_ := Aside0.mk (below_step (by repeat (first | (with_reducible first | exact HB.out | apply below_alloc | apply pw_below_drewN | apply below_drew1) | exact HB.out)) hb); clear HO149; clear HO167; clear HB; have HO149 := n0_; have HO167 := n1_; have HB := n2_; clear n0_ n1_ n2_; (try clear hb); (try clear hb2); (try clear hgn); (try clear hk); (try clear hi)) | (go_at_call 9; refine calls_of_args (args' := #[.slice (some ⟨go78, 0, none⟩) y150.length co78]) (by first | (rw [show y150.length = y147.length from (Kd.R_reads' HO149.out).1.symm] <;> rfl) | rfl) ?_; (with_reducible refine (vote_Yes.calls _ _ y150 t170 _ ?side1 ?side2 A90.out).mono ?_); (case side1 => repeat (first | exact (Kd.R_reads' HO149.out).2.2 | (with_reducible refine Kd.C_alloc ?_ _) | (with_reducible refine Kd.C_drewN ?_ _) | (with_reducible refine Kd.C_drew ?_))); (case side2 => rw [show y150.length = y147.length from (Kd.R_reads' HO149.out).1.symm]; exact (Kd.R_reads' HO149.out).2.1); rintro e w112 ⟨rfl, hb⟩; have n0_ := Aside0.mk (Kd.R_below (by (with_reducible repeat (first | apply Kd.R_alloc | apply Kd.R_drewN | apply Kd.R_drew)); exact HO149.out) hb); have n1_ := Aside0.mk (Kd.R_below (by (with_reducible repeat (first | apply Kd.R_alloc | apply Kd.R_drewN | apply Kd.R_drew)); exact HO167.out) hb); have n2_ := Aside0.mk (below_step (by repeat (first | (with_reducible first | exact HB.out | apply below_alloc | apply pw_below_drewN | apply below_drew1) | exact HB.out)) hb); clear HO149; clear HO167; clear HB; have HO149 := n0_; have HO167 := n1_; have HB := n2_; clear n0_ n1_ n2_; (try clear hb); (try clear hb2); (try clear hgn); (try clear hk); (try clear hi)) | (go_at_call 9; (with_reducible refine (vote_Yes.calls _ _ y165 t171 _ ?side1 ?side2 A91.out).mono ?_); (case side1 => repeat (first | exact (Kd.R_reads' HO167.out).2.2 | (with_reducible refine Kd.C_alloc ?_ _) | (with_reducible refine Kd.C_drewN ?_ _) | (with_reducible refine Kd.C_drew ?_))); (case side2 => exact (Kd.R_reads' HO167.out).2.1); rintro e w113 ⟨rfl, hb⟩; have n0_ := Aside0.mk (Kd.R_below (by (with_reducible repeat (first | apply Kd.R_alloc | apply Kd.R_drewN | apply Kd.R_drew)); exact HO149.out) hb); have n1_ := Aside0.mk (Kd.R_below (by (with_reducible repeat (first | apply Kd.R_alloc | apply Kd.R_drewN | apply Kd.R_drew)); exact HO167.out) hb); have n2_ := Aside0.mk (below_step (by repeat (first | (with_reducible first | exact HB.out | apply below_alloc | apply pw_below_drewN | apply below_drew1) | exact HB.out)) hb); clear HO149; clear HO167; clear HB; have HO149 := n0_; have HO167 := n1_; have HB := n2_; clear n0_ n1_ n2_; (try clear hb); (try clear hb2); (try clear hgn); (try clear hk); (try clear hi)) | (go_at_call 11; refine calls_of_args (args' := #[.int .i64 a0, .slice (some ⟨go78, 0, none⟩) y150.length co78]) (by first | (rw [show y150.length = y147.length from (Kd.R_reads' HO149.out).1.symm] <;> rfl) | rfl) ?_; (with_reducible refine (vote_Need.calls a0 _ _ y150 t172 _ ?side1 ?side2 A93.out).mono ?_); (case side1 => repeat (first | exact (Kd.R_reads' HO149.out).2.2 | (with_reducible refine Kd.C_alloc ?_ _) | (with_reducible refine Kd.C_drewN ?_ _) | (with_reducible refine Kd.C_drew ?_))); (case side2 => rw [show y150.length = y147.length from (Kd.R_reads' HO149.out).1.symm]; exact (Kd.R_reads' HO149.out).2.1); rintro e w114 ⟨rfl, hb⟩; have n0_ := Aside0.mk (Kd.R_below (by (with_reducible repeat (first | apply Kd.R_alloc | apply Kd.R_drewN | apply Kd.R_drew)); exact HO149.out) hb); have n1_ := Aside0.mk (Kd.R_below (by (with_reducible repeat (first | apply Kd.R_alloc | apply Kd.R_drewN | apply Kd.R_drew)); exact HO167.out) hb); have n2_ := Aside0.mk (below_step (by repeat (first | (with_reducible first | exact HB.out | apply below_alloc | apply pw_below_drewN | apply below_drew1) | exact HB.out)) hb); clear HO149; clear HO167; clear HB; have HO149 := n0_; have HO167 := n1_; have HB := n2_; clear n0_ n1_ n2_; (try clear hb); (try clear hb2); (try clear hgn); (try clear hk); (try clear hi)) | (go_at_call 11; (with_reducible refine (vote_Need.calls a0 _ _ y165 t173 _ ?side1 ?side2 A94.out).mono ?_); (case side1 => repeat (first | exact (Kd.R_reads' HO167.out).2.2 | (with_reducible refine Kd.C_alloc ?_ _) | (with_reducible refine Kd.C_drewN ?_ _) | (with_reducible refine Kd.C_drew ?_))); (case side2 => exact (Kd.R_reads' HO167.out).2.1); rintro e w115 ⟨rfl, hb⟩; have n0_ := Aside0.mk (Kd.R_below (by (with_reducible repeat (first | apply Kd.R_alloc | apply Kd.R_drewN | apply Kd.R_drew)); exact HO149.out) hb); have n1_ := Aside0.mk (Kd.R_below (by (with_reducible repeat (first | apply Kd.R_alloc | apply Kd.R_drewN | apply Kd.R_drew)); exact HO167.out) hb); have n2_ := Aside0.mk (below_step (by repeat (first | (with_reducible first | exact HB.out | apply below_alloc | apply pw_below_drewN | apply below_drew1) | exact HB.out)) hb); clear HO149; clear HO167; clear HB; have HO149 := n0_; have HO167 := n1_; have HB := n2_; clear n0_ n1_ n2_; (try clear hb); (try clear hb2); (try clear hgn); (try clear hk); (try clear hi)) | (go_at_call 15; refine calls_of_args (args' := #[.int .i64 a0, .slice (some ⟨go78, 0, none⟩) y150.length co78]) (by first | (rw [show y150.length = y147.length from (Kd.R_reads' HO149.out).1.symm] <;> rfl) | rfl) ?_; (with_reducible refine (vote_Healthy.calls a0 _ _ y150 t174 _ ?side1 ?side2 A96.out).mono ?_); (case side1 => repeat (first | exact (Kd.R_reads' HO149.out).2.2 | (with_reducible refine Kd.C_alloc ?_ _) | (with_reducible refine Kd.C_drewN ?_ _) | (with_reducible refine Kd.C_drew ?_))); (case side2 => rw [show y150.length = y147.length from (Kd.R_reads' HO149.out).1.symm]; exact (Kd.R_reads' HO149.out).2.1); rintro e w116 ⟨rfl, hb⟩; have n0_ := Aside0.mk (Kd.R_below (by (with_reducible repeat (first | apply Kd.R_alloc | apply Kd.R_drewN | apply Kd.R_drew)); exact HO149.out) hb); have n1_ := Aside0.mk (Kd.R_below (by (with_reducible repeat (first | apply Kd.R_alloc | apply Kd.R_drewN | apply Kd.R_drew)); exact HO167.out) hb); have n2_ := Aside0.mk (below_step (by repeat (first | (with_reducible first | exact HB.out | apply below_alloc | apply pw_below_drewN | apply below_drew1) | exact HB.out)) hb); clear HO149; clear HO167; clear HB; have HO149 := n0_; have HO167 := n1_; have HB := n2_; clear n0_ n1_ n2_; (try clear hb); (try clear hb2); (try clear hgn); (try clear hk); (try clear hi)))
                                                    go_ret
                                                    exact ⟨by first | rfl | (simp [errW_none, errW_some] <;> rfl) | (simp only [← hji75, ← hji82]; first | rfl | (simp [errW_none, errW_some] <;> rfl)) | (simp [*, errW_none, errW_some] <;> rfl), by repeat (first | (with_reducible first | exact HB.out | apply below_alloc | apply pw_below_drewN | apply below_drew1) | exact HB.out)⟩
                                                  · rw [if_neg c95] at H
                                                    have c95b0 : (t172 == t173) = false := beq_eq_false_iff_ne.mpr c95
                                                    have c95b1 : (t172 != t173) = true := bne_iff_ne.mpr c95
                                                    obtain rfl := Option.some.inj H
                                                    try go_wp2_with (first | ((with_reducible refine gate_dst (N := 80) rfl ?_); (try (refine gate_guard (by rfl) ?_; dsimp only)); refine Kd.R_lit k29 _ 29 ?hg (N := 80) ?hd (xs := ([] : List (S29))) (inner := []) (ok := fun _ => True) (okp := fun _ => True) ?hr ?hp (fun _ hk => hk) trivial (Below.refl _ _) (Nat.le_refl _) (by simp) ?_; (case hd => rfl); (case hg => rfl); (case hr => first | (go_simp; done) | (go_simp; rfl)); (case hp => exact (Reps.none _ _)); intro v145 w117 ho118 hb hg_ hnew_; clear hg_ hnew_; (first | rw [← Ny144.out] at ho118 | (simp only [Int.reduceToNat] at ho118; rw [← Ny144.out] at ho118)); have n0_ := Aside0.mk (Kd.R_lower ho118 (below_size (by repeat (first | (with_reducible first | exact HB.out | apply below_alloc | apply pw_below_drewN | apply below_drew1) | exact HB.out)))); have n1_ := Aside0.mk (below_step (by repeat (first | (with_reducible first | exact HB.out | apply below_alloc | apply pw_below_drewN | apply below_drew1) | exact HB.out)) hb); clear HB; have HO146 := n0_; have HB := n1_; clear n0_ n1_; clear hb ho118) | ((with_reducible refine gate_builtin (b := .append) (xs := #[.tmp 80, .tmp 81]) rfl ?_); (try (refine gate_guard (by rfl) ?_; dsimp only)); at_builtin; refine Kd.R_append_rows k29 (w0 := w) w.heap.size rfl (.tmp 80) (.tmp 81) 22 29 (.agg #[(.bool false), (.bool false), (.bool false)]) 3 rfl Try.underlying22 info29 rfl (by decide) (by omega) v145 y144 l1 _ _ _ (fun _ => True) (fun _ => False) rfl rfl ?aO ?aR (fun _ _ h => h) (fun _ h => h.elim) ?aF ?aB ?aS ?aL ?_; (case aR => repeat (first | exact (Kd.C_below HR1.out HB.out) | (with_reducible refine Kd.C_alloc ?_ _) | (with_reducible refine Kd.C_drewN ?_ _) | (with_reducible refine Kd.C_drew ?_))); (case aB => exact (by repeat (first | (with_reducible first | exact HB.out | apply below_alloc | apply pw_below_drewN | apply below_drew1) | exact HB.out))); (case aF => exact (fun _ _ => trivial)); (case aO => exact (by (with_reducible repeat (first | apply Kd.R_alloc | apply Kd.R_drewN | apply Kd.R_drew)); exact HO146.out)); (case aS => exact (below_size (by repeat (first | (with_reducible first | exact HB.out | apply below_alloc | apply pw_below_drewN | apply below_drew1) | exact HB.out)))); (case aL => have := LMc74.out; omega); intro v148 w119 ho hb hg hat; rw [← Ny147.out] at ho; have n0_ := Aside0.mk (hb); have n1_ := Aside0.mk (ho); clear HB; clear HO146; have HB := n0_; have HO149 := n1_; clear n0_ n1_; clear ho hb hg hat; have p78 : 0 ≤ ((ji75) : Int) := of_decide_eq_true (by first | (with_reducible assumption) | assumption); have q78 : ((ji75) : Int) < ((y147.length : Int) : Int) := of_decide_eq_true (by first | (with_reducible assumption) | assumption); obtain ⟨go78, co78, eo78, gb78, gl78, cl78, HG78⟩ := Kd.R_form HO149.out (by omega); (first | cases eo78 | (injection eo78 with ea_ en_ ec_; (first | subst ea_ | (injection ea_ with ea_; subst ea_)); subst ec_; clear en_)); have GB78 := Aside0.mk gb78; have GG78 := Aside0.mk HG78; clear gb78 gl78 HG78; obtain ⟨ce78, hcl78, hM78, hcc78, hfr78⟩ := Kd.R_elem HO149.out z29 ((ji75) : Int) p78 q78; obtain rfl := k29_openM hM78; have hx78_0 : w119.cell? ⟨go78, ((ji75) : Int).toNat * 3, none⟩ = some (.bool ((rd_T29 y147 (ji75)).f0)) := hcc78 0 _ rfl; have hx78_1 : w119.cell? ⟨go78, ((ji75) : Int).toNat * 3 + 1, none⟩ = some (.bool ((rd_T29 y147 (ji75)).f1)) := hcc78 1 _ rfl; have hx78_2 : w119.cell? ⟨go78, ((ji75) : Int).toNat * 3 + 2, none⟩ = some (.bool ((rd_T29 y147 (ji75)).f2)) := hcc78 2 _ rfl; have hf78_0 : w119.frozen? ⟨go78, ((ji75) : Int).toNat * 3, none⟩ = false := hfr78 0; have hf78_1 : w119.frozen? ⟨go78, ((ji75) : Int).toNat * 3 + 1, none⟩ = false := hfr78 1; have hf78_2 : w119.frozen? ⟨go78, ((ji75) : Int).toNat * 3 + 2, none⟩ = false := hfr78 2; clear hcl78 hcc78 hfr78 hM78; replace p78 := eq_true p78; replace q78 := eq_true q78; have HX120 := Aside0.mk (show Kd.R k29 29 w119 w.heap.size (fun _ => True) (.slice (some ⟨go78, 0, none⟩) y147.length co78) y147 from (by (with_reducible repeat (first | apply Kd.R_alloc | apply Kd.R_drewN | apply Kd.R_drew)); exact HO149.out)); obtain ⟨ce120, hcl120, hM120, hcc120, hfr120⟩ := Kd.R_elem HX120.out z29 ((ji75) : Int) (of_decide_eq_true (by first | (with_reducible assumption) | assumption)) (by have h_ : ((ji75) : Int) < ((y147.length : Int) : Int) := of_decide_eq_true (by first | (with_reducible assumption) | assumption); first | exact h_ | (have e_ := (Kd.R_reads' HO149.out).1; omega) | simpa using h_); obtain rfl := k29_openM hM120; have HP120 := Kd.R_seg HX120.out ((ji75) : Int) (of_decide_eq_true (by first | (with_reducible assumption) | assumption)) (by have h_ : ((ji75) : Int) < ((y147.length : Int) : Int) := of_decide_eq_true (by first | (with_reducible assumption) | assumption); first | exact h_ | (have e_ := (Kd.R_reads' HO149.out).1; omega) | simpa using h_) (seg := [.bool false, .bool false, .bool true]) (j := 0) hcl120 hcc120 (show 3 ≤ 3 from by decide) (x' := (⟨false, false, true⟩ : S29)) (k29_mkM _ _ _ (⟨false, false, true⟩ : S29) ) (fun _ hk => hk); have hx120_0 := hcc120 0 _ rfl; (try simp only [show (k29).sz = 3 from rfl, Nat.mul_one, Nat.add_zero] at hx120_0); have hf120_0 := hfr120 0; (try simp only [show (k29).sz = 3 from rfl, Nat.mul_one, Nat.add_zero] at hf120_0); have hx120_1 := hcc120 1 _ rfl; (try simp only [show (k29).sz = 3 from rfl, Nat.mul_one, Nat.add_zero] at hx120_1); have hf120_1 := hfr120 1; (try simp only [show (k29).sz = 3 from rfl, Nat.mul_one, Nat.add_zero] at hf120_1); have hx120_2 := hcc120 2 _ rfl; (try simp only [show (k29).sz = 3 from rfl, Nat.mul_one, Nat.add_zero] at hx120_2); have hf120_2 := hfr120 2; (try simp only [show (k29).sz = 3 from rfl, Nat.mul_one, Nat.add_zero] at hf120_2); clear hcl120 hcc120 hfr120 hM120) | ((with_reducible refine gate_store (t := 29) (p := 86) rfl ?_); refine store_event (t := 29) (p := 86) (v := ?vo_w121) (w1 := (((w119.setCell ⟨go78, ((ji75) : Int).toNat * 3, none⟩ (.bool false)).setCell ⟨go78, ((ji75) : Int).toNat * 3 + 1, none⟩ (.bool false)).setCell ⟨go78, ((ji75) : Int).toNat * 3 + 2, none⟩ (.bool true))) ?hg ?ho ?hn ?hr ?_; (case ho => rfl); (case hg => rfl); (case hn => rfl); (case hr => first | (go_simp; done) | (go_simp; rfl)); intro w121 hw; have hg : w119.grownBy w121 (some go78) := (by rw [hw]; exact HP120.2); have hp_ : Kd.R k29 29 w121 w.heap.size (fun _ => True) (.slice (some ⟨go78, 0, none⟩) y147.length co78) y150 := (by rw [hw, Ny150.out]; exact HP120.1); clear HP120; have n0_ := Aside0.mk (hp_); have n1_ := Aside0.mk ((by rw [hw]; exact below_set (below_set (below_set (HB.out) GB78.out) GB78.out) GB78.out : Below w.heap.size w w121)); clear HO149; clear HB; have HO149 := n0_; have HB := n1_; clear n0_ n1_; clear hg hw hp_))
                                                    have n0_ := Aside0.mk (Kd.R_drew HO149.out)
                                                    have n1_ := Aside0.mk (below_drew1 HB.out)
                                                    clear HO149
                                                    clear HB
                                                    have HO149 := n0_
                                                    have HB := n1_
                                                    clear n0_ n1_
                                                    have q123 : ((ji75) : Int) ≤ ((l1.length : Int) : Int) := of_decide_eq_true (by first | (with_reducible assumption) | assumption)
                                                    obtain ⟨i0123, hi0123, _, hsz123, _⟩ := info_parts info29
                                                    have hroom123 : l1.length ≤ c1 := HC1.out
                                                    have hC123 : Kd.C k29 _ A1 l1.length l1 := HR1.out
                                                    have hcut123 := cut_to (P := Try.prog) 22 29 .i64 Try.underlying22 hi0123 A1 l1.length c1 (ji75) (of_decide_eq_true (by first | (with_reducible assumption) | assumption)) q123 hroom123
                                                    have hr123 := Kd.C_take (m := ((ji75) : Int).toNat) hC123 (by omega)
                                                    have hy123 : y154.length = ((ji75) : Int).toNat := (by rw [Ny154.out, List.length_take]; omega)
                                                    rw [← Ny154.out] at hr123
                                                    rw [← hy123] at hcut123
                                                    have HR157 := Aside0.mk hr123
                                                    have HC157 := Aside0.mk (show y154.length ≤ c1 from by omega)
                                                    clear hr123 hC123 hroom123 hi0123 hsz123
                                                    have KY123 := Aside0.mk hy123
                                                    clear hy123
                                                    replace q123 := eq_true q123
                                                    have q124 : ((ji82) : Int) ≤ ((l1.length : Int) : Int) := of_decide_eq_true (by first | (with_reducible assumption) | assumption)
                                                    obtain ⟨i0124, hi0124, _, hsz124, _⟩ := info_parts info29
                                                    have hroom124 : l1.length ≤ c1 := HC1.out
                                                    have hC124 : Kd.C k29 _ A1 l1.length l1 := HR1.out
                                                    have q0124 : (0 : Int) ≤ ((ji82) : Int) := of_decide_eq_true (by first | (with_reducible assumption) | assumption)
                                                    have hcut124 := cut_from (P := Try.prog) 22 29 .i64 Try.underlying22 hi0124 3 hsz124 A1 l1.length c1 (ji82) q0124 q124
                                                    have hr124 := Kd.C_drop (m := ((ji82) : Int).toNat) (c := c1) hC124 (by omega) hroom124
                                                    obtain ⟨A124, hA124⟩ : ∃ Az_, Az_ = (if c1 = ((ji82) : Int).toNat then A1 else (A1 : Option Addr).map (·.add (((ji82) : Int).toNat * 3))) := ⟨_, rfl⟩
                                                    obtain ⟨c124, hc124⟩ : ∃ cz_, cz_ = c1 - ((ji82) : Int).toNat := ⟨_, rfl⟩
                                                    have hy124 : y161.length = l1.length - ((ji82) : Int).toNat := (by rw [Ny161.out, List.length_drop] <;> omega)
                                                    rw [show (l1).drop ((ji82) : Int).toNat = y161 from Ny161.out.symm] at hr124
                                                    replace hr124 : Kd.C k29 _ A124 y161.length y161 := (by rw [hA124]; exact hr124)
                                                    rw [← hy124, ← hA124, ← hc124] at hcut124
                                                    have HR164 := Aside0.mk hr124
                                                    have HC164 := Aside0.mk (show y161.length ≤ c124 from by rw [hy124, hc124]; exact Nat.sub_le_sub_right hroom124 _)
                                                    clear hr124 hC124 hroom124 hi0124 hsz124 hc124
                                                    have KY124 := Aside0.mk hy124
                                                    have KA124 := Aside0.mk hA124
                                                    clear hy124 hA124
                                                    replace q124 := eq_true q124
                                                    refine start_ (n := 11) (S := fun w' => True) (ds := []) #[false, false, false, false, false, false, false, false, false, false, false] (by kernel_rfl) rfl rfl trivial (fun hHeld => ?_); refine with_tabW watchkeeperlaw13_VoteMore.tab15 watchkeeperlaw13_VoteMore.bits15 (fun HT_ HW_ => ?_)
                                                    generalize w121.drew = w122 at HO149 HB HR157 HR164 hHeld ⊢
                                                    refine pure_ (i := 1) (N := some 88) (v := ?_) (a' := ?_) #[false, true, false, false, false, false, false, false, false, false, false] rfl rfl (any_of HT_.out (by kernel_rfl)) (fun _ _ _ h => h) (Or.inl ⟨by rfl, ?_⟩) ?_ ?_
                                                    rotate_left
                                                    · intro w'
                                                      go_simp
                                                      with_reducible rfl
                                                    rotate_left
                                                    · simp only [Act.put, List.setIfInBounds_toArray, List.set_cons_zero, List.set_cons_succ, i64_w, i32_w]
                                                      rfl
                                                    refine pure_ (i := 2) (N := some 89) (v := ?_) (a' := ?_) #[false, true, true, false, false, false, false, false, false, false, false] rfl rfl (any_of HT_.out (by kernel_rfl)) (fun _ _ _ h => h) (Or.inl ⟨by rfl, ?_⟩) ?_ ?_
                                                    rotate_left
                                                    · intro w'
                                                      go_simp
                                                      with_reducible rfl
                                                    rotate_left
                                                    · simp only [Act.put, List.setIfInBounds_toArray, List.set_cons_zero, List.set_cons_succ, i64_w, i32_w]
                                                      rfl
                                                    refine pure_ (i := 3) (N := some 90) (v := ?_) (a' := ?_) #[false, true, true, true, false, false, false, false, false, false, false] rfl rfl (any_of HT_.out (by kernel_rfl)) (fun _ _ _ h => h) (Or.inl ⟨by rfl, ?_⟩) ?_ ?_
                                                    rotate_left
                                                    · intro w'
                                                      go_simp
                                                      with_reducible rfl
                                                    rotate_left
                                                    · simp only [Act.put, List.setIfInBounds_toArray, List.set_cons_zero, List.set_cons_succ, i64_w, i32_w]
                                                      rfl
                                                    refine pure_ (i := 5) (N := some 92) (v := ?_) (a' := ?_) #[false, true, true, true, false, true, false, false, false, false, false] rfl rfl (any_of HT_.out (by kernel_rfl)) (fun _ _ _ h => h) (Or.inl ⟨by rfl, ?_⟩) ?_ ?_
                                                    rotate_left
                                                    · intro w'
                                                      go_simp
                                                      with_reducible rfl
                                                    rotate_left
                                                    · simp only [Act.put, List.setIfInBounds_toArray, List.set_cons_zero, List.set_cons_succ, i64_w, i32_w]
                                                      rfl
                                                    refine pure_ (i := 6) (N := some 93) (v := ?_) (a' := ?_) #[false, true, true, true, false, true, true, false, false, false, false] rfl rfl (any_of HT_.out (by kernel_rfl)) (fun _ _ _ h => h) (Or.inl ⟨by rfl, ?_⟩) ?_ ?_
                                                    rotate_left
                                                    · intro w'
                                                      go_simp
                                                      with_reducible rfl
                                                    rotate_left
                                                    · simp only [Act.put, List.setIfInBounds_toArray, List.set_cons_zero, List.set_cons_succ, i64_w, i32_w]
                                                      rfl
                                                    refine pure_ (i := 7) (N := some 94) (v := ?_) (a' := ?_) #[false, true, true, true, false, true, true, true, false, false, false] rfl rfl (any_of HT_.out (by kernel_rfl)) (fun _ _ _ h => h) (Or.inl ⟨by rfl, ?_⟩) ?_ ?_
                                                    rotate_left
                                                    · intro w'
                                                      go_simp
                                                      with_reducible rfl
                                                    rotate_left
                                                    · simp only [Act.put, List.setIfInBounds_toArray, List.set_cons_zero, List.set_cons_succ, i64_w, i32_w]
                                                      rfl
                                                    refine pure_ (i := 8) (N := some 95) (v := ?_) (a' := ?_) #[false, true, true, true, false, true, true, true, true, false, false] rfl rfl (any_of HT_.out (by kernel_rfl)) (fun _ _ _ h => h) (Or.inl ⟨by rfl, ?_⟩) ?_ ?_
                                                    rotate_left
                                                    · intro w'
                                                      go_simp
                                                      with_reducible rfl
                                                    rotate_left
                                                    · simp only [Act.put, List.setIfInBounds_toArray, List.set_cons_zero, List.set_cons_succ, i64_w, i32_w]
                                                      rfl
                                                    refine one_ (i := 0) (N := some 87) #[true, true, true, true, false, true, true, true, true, false, false] rfl rfl (one_of HT_.out (by kernel_rfl)) (by decide) (fun K hK => ?_)
                                                    refine Kd.R_lit_step k29 _ 29 ?hg (N := 87) ?hd (xs := ([] : List (S29))) (inner := []) (ok := fun _ => True) (okp := fun _ => True) ?hr ?hp (fun _ hk => hk) trivial (Below.refl _ _) (Nat.le_refl _) (by simp) ?_; (case hd => rfl); (case hg => rfl); (case hr => first | (go_simp; done) | (go_simp; rfl)); (case hp => exact (Reps.none _ _))
                                                    intro v152 w125 ho126 hb hg_ hnew_
                                                    clear hg_ hnew_
                                                    (first | rw [← Ny151.out] at ho126 | (simp only [Int.reduceToNat] at ho126; rw [← Ny151.out] at ho126))
                                                    have n0_ := Aside0.mk (Kd.R_elder' (by (with_reducible repeat (first | apply Kd.R_alloc | apply Kd.R_drewN | apply Kd.R_drew)); exact HO149.out) (Kd.R_base ho126) hb)
                                                    have n1_ := Aside0.mk (Kd.R_lower (Kd.R_new' ho126 (Kd.R_lt (by (with_reducible repeat (first | apply Kd.R_alloc | apply Kd.R_drewN | apply Kd.R_drew)); exact HO149.out))) (below_size (by repeat (first | (with_reducible first | exact HB.out | apply below_alloc | apply pw_below_drewN | apply below_drew1) | exact HB.out))))
                                                    have n2_ := Aside0.mk (below_step (by repeat (first | (with_reducible first | exact HB.out | apply below_alloc | apply pw_below_drewN | apply below_drew1) | exact HB.out)) hb)
                                                    clear HO149
                                                    clear HB
                                                    have HO149 := n0_
                                                    have HO153 := n1_
                                                    have HB := n2_
                                                    clear n0_ n1_ n2_
                                                    clear hb ho126
                                                    refine hK.out _ _ trivial (fun hHeld => ?_)
                                                    clear hK K
                                                    refine norm_ (a' := ?_) ?_ ?_
                                                    rotate_left
                                                    · show Act.put _ (some 87) _ = _
                                                      simp only [Act.put, List.setIfInBounds_toArray, List.set_cons_zero, List.set_cons_succ, i64_w, i32_w]
                                                      rfl
                                                    refine one_ (i := 4) (N := some 91) #[true, true, true, true, true, true, true, true, true, false, false] rfl rfl (one_of HT_.out (by kernel_rfl)) (by decide) (fun K hK => ?_)
                                                    refine Kd.R_append_rows_step k29 (w0 := w) w.heap.size (by rfl) (.tmp 87) (.tmp 90) 22 29 (.agg #[(.bool false), (.bool false), (.bool false)]) 3 rfl Try.underlying22 info29 rfl (by decide) (by omega) v152 y151 y154 _ _ _ (fun k_ => some k_ ≠ (.slice (some ⟨go78, 0, none⟩) y147.length co78 : Value).ownBlock) (fun _ => False) rfl rfl ?aO ?aR (fun _ _ h => h) (fun _ h => h.elim) ?aF ?aB ?aS ?aL ?_
                                                    (case aR => repeat (first | exact (Kd.C_below HR157.out HB.out) | (with_reducible refine Kd.C_alloc ?_ _) | (with_reducible refine Kd.C_drewN ?_ _) | (with_reducible refine Kd.C_drew ?_)))
                                                    (case aB => exact (by repeat (first | (with_reducible first | exact HB.out | apply below_alloc | apply pw_below_drewN | apply below_drew1) | exact HB.out)))
                                                    (case aF => exact (fun k_ hk => Kd.fresh' (Kd.R_lt (by (with_reducible repeat (first | apply Kd.R_alloc | apply Kd.R_drewN | apply Kd.R_drew)); exact HO149.out)) k_ hk))
                                                    (case aO => exact (by (with_reducible repeat (first | apply Kd.R_alloc | apply Kd.R_drewN | apply Kd.R_drew)); exact Kd.R_mono HO153.out (fun _ hk => hk.2)))
                                                    (case aS => exact (below_size (by repeat (first | (with_reducible first | exact HB.out | apply below_alloc | apply pw_below_drewN | apply below_drew1) | exact HB.out))))
                                                    (case aL => have := LMc81.out; omega)
                                                    intro v159 w127 ho hb hg hat
                                                    rw [← Ny158.out] at ho
                                                    have n0_ := Aside0.mk (Kd.R_after (ok := (fun _ => True)) (by (with_reducible repeat (first | apply Kd.R_alloc | apply Kd.R_drewN | apply Kd.R_drew)); exact HO149.out) hg hat)
                                                    have n1_ := Aside0.mk (hb)
                                                    have n2_ := Aside0.mk (ho)
                                                    clear HO149
                                                    clear HB
                                                    clear HO153
                                                    have HO149 := n0_
                                                    have HB := n1_
                                                    have HO160 := n2_
                                                    clear n0_ n1_ n2_
                                                    clear ho hb hg hat
                                                    refine hK.out _ _ trivial (fun hHeld => ?_)
                                                    clear hK K
                                                    refine norm_ (a' := ?_) ?_ ?_
                                                    rotate_left
                                                    · show Act.put _ (some 91) _ = _
                                                      simp only [Act.put, List.setIfInBounds_toArray, List.set_cons_zero, List.set_cons_succ, i64_w, i32_w]
                                                      rfl
                                                    refine one_ (i := 9) (N := some 96) #[true, true, true, true, true, true, true, true, true, true, false] rfl rfl (one_of HT_.out (by kernel_rfl)) (by decide) (fun K hK => ?_)
                                                    refine Kd.R_append_rows_step k29 (w0 := w) w.heap.size (by rfl) (.tmp 91) (.tmp 95) 22 29 (.agg #[(.bool false), (.bool false), (.bool false)]) 3 rfl Try.underlying22 info29 rfl (by decide) (by omega) v159 y158 y161 _ _ _ (fun k_ => some k_ ≠ (.slice (some ⟨go78, 0, none⟩) y147.length co78 : Value).ownBlock) (fun _ => False) rfl rfl ?aO ?aR (fun _ _ h => h) (fun _ h => h.elim) ?aF ?aB ?aS ?aL ?_
                                                    (case aR => repeat (first | exact (Kd.C_below HR164.out HB.out) | (with_reducible refine Kd.C_alloc ?_ _) | (with_reducible refine Kd.C_drewN ?_ _) | (with_reducible refine Kd.C_drew ?_)))
                                                    (case aB => exact (by repeat (first | (with_reducible first | exact HB.out | apply below_alloc | apply pw_below_drewN | apply below_drew1) | exact HB.out)))
                                                    (case aF => exact (fun k_ hk => Kd.fresh' (Kd.R_lt (by (with_reducible repeat (first | apply Kd.R_alloc | apply Kd.R_drewN | apply Kd.R_drew)); exact HO149.out)) k_ hk))
                                                    (case aO => exact (by (with_reducible repeat (first | apply Kd.R_alloc | apply Kd.R_drewN | apply Kd.R_drew)); exact HO160.out))
                                                    (case aS => exact (below_size (by repeat (first | (with_reducible first | exact HB.out | apply below_alloc | apply pw_below_drewN | apply below_drew1) | exact HB.out))))
                                                    (case aL => have := LMc85.out; omega)
                                                    intro v166 w128 ho hb hg hat
                                                    rw [← Ny165.out] at ho
                                                    have n0_ := Aside0.mk (Kd.R_after (ok := (fun _ => True)) (by (with_reducible repeat (first | apply Kd.R_alloc | apply Kd.R_drewN | apply Kd.R_drew)); exact HO149.out) hg hat)
                                                    have n1_ := Aside0.mk (hb)
                                                    have n2_ := Aside0.mk (ho)
                                                    clear HO149
                                                    clear HB
                                                    clear HO160
                                                    have HO149 := n0_
                                                    have HB := n1_
                                                    have HO167 := n2_
                                                    clear n0_ n1_ n2_
                                                    clear ho hb hg hat
                                                    refine hK.out _ _ trivial (fun hHeld => ?_)
                                                    clear hK K
                                                    refine norm_ (a' := ?_) ?_ ?_
                                                    rotate_left
                                                    · show Act.put _ (some 96) _ = _
                                                      simp only [Act.put, List.setIfInBounds_toArray, List.set_cons_zero, List.set_cons_succ, i64_w, i32_w]
                                                      rfl
                                                    refine pure_ (i := 10) (N := some 13) (v := ?_) (a' := ?_) #[true, true, true, true, true, true, true, true, true, true, true] rfl rfl (any_of HT_.out (by kernel_rfl)) (fun _ _ _ h => h) (Or.inl ⟨by rfl, ?_⟩) ?_ ?_
                                                    rotate_left
                                                    · intro w'
                                                      go_simp
                                                      with_reducible rfl
                                                    rotate_left
                                                    · simp only [Act.put, List.setIfInBounds_toArray, List.set_cons_zero, List.set_cons_succ, i64_w, i32_w]
                                                      rfl
                                                    refine done_ (done_of HT_.out (by kernel_rfl)) ?_
                                                    try go_wp2_with (first | (go_at_call 13; refine calls_of_args (args' := #[.int .i64 a0, .slice (some ⟨go78, 0, none⟩) y150.length co78]) (by first | (rw [show y150.length = y147.length from (Kd.R_reads' HO149.out).1.symm] <;> rfl) | rfl) ?_; (with_reducible refine (vote_Trips.calls a0 _ _ y150 t168 _ ?side1 ?side2 A87.out).mono ?_); (case side1 => repeat (first | exact (Kd.R_reads' HO149.out).2.2 | (with_reducible refine Kd.C_alloc ?_ _) | (with_reducible refine Kd.C_drewN ?_ _) | (with_reducible refine Kd.C_drew ?_))); (case side2 => rw [show y150.length = y147.length from (Kd.R_reads' HO149.out).1.symm]; exact (Kd.R_reads' HO149.out).2.1); rintro e w129 ⟨rfl, hb⟩; have n0_ := Aside0.mk (Kd.R_below (by (with_reducible repeat (first | apply Kd.R_alloc | apply Kd.R_drewN | apply Kd.R_drew)); exact HO149.out) hb); have n1_ := Aside0.mk (Kd.R_below (by (with_reducible repeat (first | apply Kd.R_alloc | apply Kd.R_drewN | apply Kd.R_drew)); exact HO167.out) hb); have n2_ := Aside0.mk (below_step (by repeat (first | (with_reducible first | exact HB.out | apply below_alloc | apply pw_below_drewN | apply below_drew1) | exact HB.out)) hb); clear HO149; clear HO167; clear HB; have HO149 := n0_; have HO167 := n1_; have HB := n2_; clear n0_ n1_ n2_; (try clear hb); (try clear hb2); (try clear hgn); (try clear hk); (try clear hi); obtain ⟨Ao130, co130, eo130⟩ := Kd.R_slice HO167.out; subst eo130) | (go_at_call 13; (with_reducible refine (vote_Trips.calls a0 _ _ y165 t169 _ ?side1 ?side2 A88.out).mono ?_); (case side1 => repeat (first | exact (Kd.R_reads' HO167.out).2.2 | (with_reducible refine Kd.C_alloc ?_ _) | (with_reducible refine Kd.C_drewN ?_ _) | (with_reducible refine Kd.C_drew ?_))); (case side2 => exact (Kd.R_reads' HO167.out).2.1); rintro e w131 ⟨rfl, hb⟩; have n0_ := Aside0.mk (Kd.R_below (by (with_reducible repeat (first | apply Kd.R_alloc | apply Kd.R_drewN | apply Kd.R_drew)); exact HO149.out) hb); have n1_ := Aside0.mk (Kd.R_below (by (with_reducible repeat (first | apply Kd.R_alloc | apply Kd.R_drewN | apply Kd.R_drew)); exact HO167.out) hb); have n2_ := Aside0.mk (below_step (by repeat (first | (with_reducible first | exact HB.out | apply below_alloc | apply pw_below_drewN | apply below_drew1) | exact HB.out)) hb); clear HO149; clear HO167; clear HB; have HO149 := n0_; have HO167 := n1_; have HB := n2_; clear n0_ n1_ n2_; (try clear hb); (try clear hb2); (try clear hgn); (try clear hk); (try clear hi)) | (go_at_call 9; refine calls_of_args (args' := #[.slice (some ⟨go78, 0, none⟩) y150.length co78]) (by first | (rw [show y150.length = y147.length from (Kd.R_reads' HO149.out).1.symm] <;> rfl) | rfl) ?_; (with_reducible refine (vote_Yes.calls _ _ y150 t170 _ ?side1 ?side2 A90.out).mono ?_); (case side1 => repeat (first | exact (Kd.R_reads' HO149.out).2.2 | (with_reducible refine Kd.C_alloc ?_ _) | (with_reducible refine Kd.C_drewN ?_ _) | (with_reducible refine Kd.C_drew ?_))); (case side2 => rw [show y150.length = y147.length from (Kd.R_reads' HO149.out).1.symm]; exact (Kd.R_reads' HO149.out).2.1); rintro e w132 ⟨rfl, hb⟩; have n0_ := Aside0.mk (Kd.R_below (by (with_reducible repeat (first | apply Kd.R_alloc | apply Kd.R_drewN | apply Kd.R_drew)); exact HO149.out) hb); have n1_ := Aside0.mk (Kd.R_below (by (with_reducible repeat (first | apply Kd.R_alloc | apply Kd.R_drewN | apply Kd.R_drew)); exact HO167.out) hb); have n2_ := Aside0.mk (below_step (by repeat (first | (with_reducible first | exact HB.out | apply below_alloc | apply pw_below_drewN | apply below_drew1) | exact HB.out)) hb); clear HO149; clear HO167; clear HB; have HO149 := n0_; have HO167 := n1_; have HB := n2_; clear n0_ n1_ n2_; (try clear hb); (try clear hb2); (try clear hgn); (try clear hk); (try clear hi)) | (go_at_call 9; (with_reducible refine (vote_Yes.calls _ _ y165 t171 _ ?side1 ?side2 A91.out).mono ?_); (case side1 => repeat (first | exact (Kd.R_reads' HO167.out).2.2 | (with_reducible refine Kd.C_alloc ?_ _) | (with_reducible refine Kd.C_drewN ?_ _) | (with_reducible refine Kd.C_drew ?_))); (case side2 => exact (Kd.R_reads' HO167.out).2.1); rintro e w133 ⟨rfl, hb⟩; have n0_ := Aside0.mk (Kd.R_below (by (with_reducible repeat (first | apply Kd.R_alloc | apply Kd.R_drewN | apply Kd.R_drew)); exact HO149.out) hb); have n1_ := Aside0.mk (Kd.R_below (by (with_reducible repeat (first | apply Kd.R_alloc | apply Kd.R_drewN | apply Kd.R_drew)); exact HO167.out) hb); have n2_ := Aside0.mk (below_step (by repeat (first | (with_reducible first | exact HB.out | apply below_alloc | apply pw_below_drewN | apply below_drew1) | exact HB.out)) hb); clear HO149; clear HO167; clear HB; have HO149 := n0_; have HO167 := n1_; have HB := n2_; clear n0_ n1_ n2_; (try clear hb); (try clear hb2); (try clear hgn); (try clear hk); (try clear hi)) | (go_at_call 11; refine calls_of_args (args' := #[.int .i64 a0, .slice (some ⟨go78, 0, none⟩) y150.length co78]) (by first | (rw [show y150.length = y147.length from (Kd.R_reads' HO149.out).1.symm] <;> rfl) | rfl) ?_; (with_reducible refine (vote_Need.calls a0 _ _ y150 t172 _ ?side1 ?side2 A93.out).mono ?_); (case side1 => repeat (first | exact (Kd.R_reads' HO149.out).2.2 | (with_reducible refine Kd.C_alloc ?_ _) | (with_reducible refine Kd.C_drewN ?_ _) | (with_reducible refine Kd.C_drew ?_))); (case side2 => rw [show y150.length = y147.length from (Kd.R_reads' HO149.out).1.symm]; exact (Kd.R_reads' HO149.out).2.1); rintro e w134 ⟨rfl, hb⟩; have n0_ := Aside0.mk (Kd.R_below (by (with_reducible repeat (first | apply Kd.R_alloc | apply Kd.R_drewN | apply Kd.R_drew)); exact HO149.out) hb); have n1_ := Aside0.mk (Kd.R_below (by (with_reducible repeat (first | apply Kd.R_alloc | apply Kd.R_drewN | apply Kd.R_drew)); exact HO167.out) hb); have n2_ := Aside0.mk (below_step (by repeat (first | (with_reducible first | exact HB.out | apply below_alloc | apply pw_below_drewN | apply below_drew1) | exact HB.out)) hb); clear HO149; clear HO167; clear HB; have HO149 := n0_; have HO167 := n1_; have HB := n2_; clear n0_ n1_ n2_; (try clear hb); (try clear hb2); (try clear hgn); (try clear hk); (try clear hi)) | (go_at_call 11; (with_reducible refine (vote_Need.calls a0 _ _ y165 t173 _ ?side1 ?side2 A94.out).mono ?_); (case side1 => repeat (first | exact (Kd.R_reads' HO167.out).2.2 | (with_reducible refine Kd.C_alloc ?_ _) | (with_reducible refine Kd.C_drewN ?_ _) | (with_reducible refine Kd.C_drew ?_))); (case side2 => exact (Kd.R_reads' HO167.out).2.1); rintro e w135 ⟨rfl, hb⟩; have n0_ := Aside0.mk (Kd.R_below (by (with_reducible repeat (first | apply Kd.R_alloc | apply Kd.R_drewN | apply Kd.R_drew)); exact HO149.out) hb); have n1_ := Aside0.mk (Kd.R_below (by (with_reducible repeat (first | apply Kd.R_alloc | apply Kd.R_drewN | apply Kd.R_drew)); exact HO167.out) hb); have n2_ := Aside0.mk (below_step (by repeat (first | (with_reducible first | exact HB.out | apply below_alloc | apply pw_below_drewN | apply below_drew1) | exact HB.out)) hb); clear HO149; clear HO167; clear HB; have HO149 := n0_; have HO167 := n1_; have HB := n2_; clear n0_ n1_ n2_; (try clear hb); (try clear hb2); (try clear hgn); (try clear hk); (try clear hi)))
                                                    go_ret
                                                    exact ⟨by first | rfl | (simp [errW_none, errW_some] <;> rfl) | (simp only [← hji75, ← hji82]; first | rfl | (simp [errW_none, errW_some] <;> rfl)) | (simp [*, errW_none, errW_some] <;> rfl), by repeat (first | (with_reducible first | exact HB.out | apply below_alloc | apply pw_below_drewN | apply below_drew1) | exact HB.out)⟩
                                                · rw [if_neg c92] at H
                                                  have c92b0 : (t170 == t171) = false := beq_eq_false_iff_ne.mpr c92
                                                  have c92b1 : (t170 != t171) = true := bne_iff_ne.mpr c92
                                                  obtain rfl := Option.some.inj H
                                                  try go_wp2_with (first | ((with_reducible refine gate_dst (N := 80) rfl ?_); (try (refine gate_guard (by rfl) ?_; dsimp only)); refine Kd.R_lit k29 _ 29 ?hg (N := 80) ?hd (xs := ([] : List (S29))) (inner := []) (ok := fun _ => True) (okp := fun _ => True) ?hr ?hp (fun _ hk => hk) trivial (Below.refl _ _) (Nat.le_refl _) (by simp) ?_; (case hd => rfl); (case hg => rfl); (case hr => first | (go_simp; done) | (go_simp; rfl)); (case hp => exact (Reps.none _ _)); intro v145 w136 ho137 hb hg_ hnew_; clear hg_ hnew_; (first | rw [← Ny144.out] at ho137 | (simp only [Int.reduceToNat] at ho137; rw [← Ny144.out] at ho137)); have n0_ := Aside0.mk (Kd.R_lower ho137 (below_size (by repeat (first | (with_reducible first | exact HB.out | apply below_alloc | apply pw_below_drewN | apply below_drew1) | exact HB.out)))); have n1_ := Aside0.mk (below_step (by repeat (first | (with_reducible first | exact HB.out | apply below_alloc | apply pw_below_drewN | apply below_drew1) | exact HB.out)) hb); clear HB; have HO146 := n0_; have HB := n1_; clear n0_ n1_; clear hb ho137) | ((with_reducible refine gate_builtin (b := .append) (xs := #[.tmp 80, .tmp 81]) rfl ?_); (try (refine gate_guard (by rfl) ?_; dsimp only)); at_builtin; refine Kd.R_append_rows k29 (w0 := w) w.heap.size rfl (.tmp 80) (.tmp 81) 22 29 (.agg #[(.bool false), (.bool false), (.bool false)]) 3 rfl Try.underlying22 info29 rfl (by decide) (by omega) v145 y144 l1 _ _ _ (fun _ => True) (fun _ => False) rfl rfl ?aO ?aR (fun _ _ h => h) (fun _ h => h.elim) ?aF ?aB ?aS ?aL ?_; (case aR => repeat (first | exact (Kd.C_below HR1.out HB.out) | (with_reducible refine Kd.C_alloc ?_ _) | (with_reducible refine Kd.C_drewN ?_ _) | (with_reducible refine Kd.C_drew ?_))); (case aB => exact (by repeat (first | (with_reducible first | exact HB.out | apply below_alloc | apply pw_below_drewN | apply below_drew1) | exact HB.out))); (case aF => exact (fun _ _ => trivial)); (case aO => exact (by (with_reducible repeat (first | apply Kd.R_alloc | apply Kd.R_drewN | apply Kd.R_drew)); exact HO146.out)); (case aS => exact (below_size (by repeat (first | (with_reducible first | exact HB.out | apply below_alloc | apply pw_below_drewN | apply below_drew1) | exact HB.out)))); (case aL => have := LMc74.out; omega); intro v148 w138 ho hb hg hat; rw [← Ny147.out] at ho; have n0_ := Aside0.mk (hb); have n1_ := Aside0.mk (ho); clear HB; clear HO146; have HB := n0_; have HO149 := n1_; clear n0_ n1_; clear ho hb hg hat; have p78 : 0 ≤ ((ji75) : Int) := of_decide_eq_true (by first | (with_reducible assumption) | assumption); have q78 : ((ji75) : Int) < ((y147.length : Int) : Int) := of_decide_eq_true (by first | (with_reducible assumption) | assumption); obtain ⟨go78, co78, eo78, gb78, gl78, cl78, HG78⟩ := Kd.R_form HO149.out (by omega); (first | cases eo78 | (injection eo78 with ea_ en_ ec_; (first | subst ea_ | (injection ea_ with ea_; subst ea_)); subst ec_; clear en_)); have GB78 := Aside0.mk gb78; have GG78 := Aside0.mk HG78; clear gb78 gl78 HG78; obtain ⟨ce78, hcl78, hM78, hcc78, hfr78⟩ := Kd.R_elem HO149.out z29 ((ji75) : Int) p78 q78; obtain rfl := k29_openM hM78; have hx78_0 : w138.cell? ⟨go78, ((ji75) : Int).toNat * 3, none⟩ = some (.bool ((rd_T29 y147 (ji75)).f0)) := hcc78 0 _ rfl; have hx78_1 : w138.cell? ⟨go78, ((ji75) : Int).toNat * 3 + 1, none⟩ = some (.bool ((rd_T29 y147 (ji75)).f1)) := hcc78 1 _ rfl; have hx78_2 : w138.cell? ⟨go78, ((ji75) : Int).toNat * 3 + 2, none⟩ = some (.bool ((rd_T29 y147 (ji75)).f2)) := hcc78 2 _ rfl; have hf78_0 : w138.frozen? ⟨go78, ((ji75) : Int).toNat * 3, none⟩ = false := hfr78 0; have hf78_1 : w138.frozen? ⟨go78, ((ji75) : Int).toNat * 3 + 1, none⟩ = false := hfr78 1; have hf78_2 : w138.frozen? ⟨go78, ((ji75) : Int).toNat * 3 + 2, none⟩ = false := hfr78 2; clear hcl78 hcc78 hfr78 hM78; replace p78 := eq_true p78; replace q78 := eq_true q78; have HX139 := Aside0.mk (show Kd.R k29 29 w138 w.heap.size (fun _ => True) (.slice (some ⟨go78, 0, none⟩) y147.length co78) y147 from (by (with_reducible repeat (first | apply Kd.R_alloc | apply Kd.R_drewN | apply Kd.R_drew)); exact HO149.out)); obtain ⟨ce139, hcl139, hM139, hcc139, hfr139⟩ := Kd.R_elem HX139.out z29 ((ji75) : Int) (of_decide_eq_true (by first | (with_reducible assumption) | assumption)) (by have h_ : ((ji75) : Int) < ((y147.length : Int) : Int) := of_decide_eq_true (by first | (with_reducible assumption) | assumption); first | exact h_ | (have e_ := (Kd.R_reads' HO149.out).1; omega) | simpa using h_); obtain rfl := k29_openM hM139; have HP139 := Kd.R_seg HX139.out ((ji75) : Int) (of_decide_eq_true (by first | (with_reducible assumption) | assumption)) (by have h_ : ((ji75) : Int) < ((y147.length : Int) : Int) := of_decide_eq_true (by first | (with_reducible assumption) | assumption); first | exact h_ | (have e_ := (Kd.R_reads' HO149.out).1; omega) | simpa using h_) (seg := [.bool false, .bool false, .bool true]) (j := 0) hcl139 hcc139 (show 3 ≤ 3 from by decide) (x' := (⟨false, false, true⟩ : S29)) (k29_mkM _ _ _ (⟨false, false, true⟩ : S29) ) (fun _ hk => hk); have hx139_0 := hcc139 0 _ rfl; (try simp only [show (k29).sz = 3 from rfl, Nat.mul_one, Nat.add_zero] at hx139_0); have hf139_0 := hfr139 0; (try simp only [show (k29).sz = 3 from rfl, Nat.mul_one, Nat.add_zero] at hf139_0); have hx139_1 := hcc139 1 _ rfl; (try simp only [show (k29).sz = 3 from rfl, Nat.mul_one, Nat.add_zero] at hx139_1); have hf139_1 := hfr139 1; (try simp only [show (k29).sz = 3 from rfl, Nat.mul_one, Nat.add_zero] at hf139_1); have hx139_2 := hcc139 2 _ rfl; (try simp only [show (k29).sz = 3 from rfl, Nat.mul_one, Nat.add_zero] at hx139_2); have hf139_2 := hfr139 2; (try simp only [show (k29).sz = 3 from rfl, Nat.mul_one, Nat.add_zero] at hf139_2); clear hcl139 hcc139 hfr139 hM139) | ((with_reducible refine gate_store (t := 29) (p := 86) rfl ?_); refine store_event (t := 29) (p := 86) (v := ?vo_w140) (w1 := (((w138.setCell ⟨go78, ((ji75) : Int).toNat * 3, none⟩ (.bool false)).setCell ⟨go78, ((ji75) : Int).toNat * 3 + 1, none⟩ (.bool false)).setCell ⟨go78, ((ji75) : Int).toNat * 3 + 2, none⟩ (.bool true))) ?hg ?ho ?hn ?hr ?_; (case ho => rfl); (case hg => rfl); (case hn => rfl); (case hr => first | (go_simp; done) | (go_simp; rfl)); intro w140 hw; have hg : w138.grownBy w140 (some go78) := (by rw [hw]; exact HP139.2); have hp_ : Kd.R k29 29 w140 w.heap.size (fun _ => True) (.slice (some ⟨go78, 0, none⟩) y147.length co78) y150 := (by rw [hw, Ny150.out]; exact HP139.1); clear HP139; have n0_ := Aside0.mk (hp_); have n1_ := Aside0.mk ((by rw [hw]; exact below_set (below_set (below_set (HB.out) GB78.out) GB78.out) GB78.out : Below w.heap.size w w140)); clear HO149; clear HB; have HO149 := n0_; have HB := n1_; clear n0_ n1_; clear hg hw hp_))
                                                  have n0_ := Aside0.mk (Kd.R_drew HO149.out)
                                                  have n1_ := Aside0.mk (below_drew1 HB.out)
                                                  clear HO149
                                                  clear HB
                                                  have HO149 := n0_
                                                  have HB := n1_
                                                  clear n0_ n1_
                                                  have q142 : ((ji75) : Int) ≤ ((l1.length : Int) : Int) := of_decide_eq_true (by first | (with_reducible assumption) | assumption)
                                                  obtain ⟨i0142, hi0142, _, hsz142, _⟩ := info_parts info29
                                                  have hroom142 : l1.length ≤ c1 := HC1.out
                                                  have hC142 : Kd.C k29 _ A1 l1.length l1 := HR1.out
                                                  have hcut142 := cut_to (P := Try.prog) 22 29 .i64 Try.underlying22 hi0142 A1 l1.length c1 (ji75) (of_decide_eq_true (by first | (with_reducible assumption) | assumption)) q142 hroom142
                                                  have hr142 := Kd.C_take (m := ((ji75) : Int).toNat) hC142 (by omega)
                                                  have hy142 : y154.length = ((ji75) : Int).toNat := (by rw [Ny154.out, List.length_take]; omega)
                                                  rw [← Ny154.out] at hr142
                                                  rw [← hy142] at hcut142
                                                  have HR157 := Aside0.mk hr142
                                                  have HC157 := Aside0.mk (show y154.length ≤ c1 from by omega)
                                                  clear hr142 hC142 hroom142 hi0142 hsz142
                                                  have KY142 := Aside0.mk hy142
                                                  clear hy142
                                                  replace q142 := eq_true q142
                                                  have q143 : ((ji82) : Int) ≤ ((l1.length : Int) : Int) := of_decide_eq_true (by first | (with_reducible assumption) | assumption)
                                                  obtain ⟨i0143, hi0143, _, hsz143, _⟩ := info_parts info29
                                                  have hroom143 : l1.length ≤ c1 := HC1.out
                                                  have hC143 : Kd.C k29 _ A1 l1.length l1 := HR1.out
                                                  have q0143 : (0 : Int) ≤ ((ji82) : Int) := of_decide_eq_true (by first | (with_reducible assumption) | assumption)
                                                  have hcut143 := cut_from (P := Try.prog) 22 29 .i64 Try.underlying22 hi0143 3 hsz143 A1 l1.length c1 (ji82) q0143 q143
                                                  have hr143 := Kd.C_drop (m := ((ji82) : Int).toNat) (c := c1) hC143 (by omega) hroom143
                                                  obtain ⟨A143, hA143⟩ : ∃ Az_, Az_ = (if c1 = ((ji82) : Int).toNat then A1 else (A1 : Option Addr).map (·.add (((ji82) : Int).toNat * 3))) := ⟨_, rfl⟩
                                                  obtain ⟨c143, hc143⟩ : ∃ cz_, cz_ = c1 - ((ji82) : Int).toNat := ⟨_, rfl⟩
                                                  have hy143 : y161.length = l1.length - ((ji82) : Int).toNat := (by rw [Ny161.out, List.length_drop] <;> omega)
                                                  rw [show (l1).drop ((ji82) : Int).toNat = y161 from Ny161.out.symm] at hr143
                                                  replace hr143 : Kd.C k29 _ A143 y161.length y161 := (by rw [hA143]; exact hr143)
                                                  rw [← hy143, ← hA143, ← hc143] at hcut143
                                                  have HR164 := Aside0.mk hr143
                                                  have HC164 := Aside0.mk (show y161.length ≤ c143 from by rw [hy143, hc143]; exact Nat.sub_le_sub_right hroom143 _)
                                                  clear hr143 hC143 hroom143 hi0143 hsz143 hc143
                                                  have KY143 := Aside0.mk hy143
                                                  have KA143 := Aside0.mk hA143
                                                  clear hy143 hA143
                                                  replace q143 := eq_true q143
                                                  refine start_ (n := 11) (S := fun w' => True) (ds := []) #[false, false, false, false, false, false, false, false, false, false, false] (by kernel_rfl) rfl rfl trivial (fun hHeld => ?_); refine with_tabW watchkeeperlaw13_VoteMore.tab15 watchkeeperlaw13_VoteMore.bits15 (fun HT_ HW_ => ?_)
                                                  generalize w140.drew = w141 at HO149 HB HR157 HR164 hHeld ⊢
                                                  refine pure_ (i := 1) (N := some 88) (v := ?_) (a' := ?_) #[false, true, false, false, false, false, false, false, false, false, false] rfl rfl (any_of HT_.out (by kernel_rfl)) (fun _ _ _ h => h) (Or.inl ⟨by rfl, ?_⟩) ?_ ?_
                                                  rotate_left
                                                  · intro w'
                                                    go_simp
                                                    with_reducible rfl
                                                  rotate_left
                                                  · simp only [Act.put, List.setIfInBounds_toArray, List.set_cons_zero, List.set_cons_succ, i64_w, i32_w]
                                                    rfl
                                                  refine pure_ (i := 2) (N := some 89) (v := ?_) (a' := ?_) #[false, true, true, false, false, false, false, false, false, false, false] rfl rfl (any_of HT_.out (by kernel_rfl)) (fun _ _ _ h => h) (Or.inl ⟨by rfl, ?_⟩) ?_ ?_
                                                  rotate_left
                                                  · intro w'
                                                    go_simp
                                                    with_reducible rfl
                                                  rotate_left
                                                  · simp only [Act.put, List.setIfInBounds_toArray, List.set_cons_zero, List.set_cons_succ, i64_w, i32_w]
                                                    rfl
                                                  refine pure_ (i := 3) (N := some 90) (v := ?_) (a' := ?_) #[false, true, true, true, false, false, false, false, false, false, false] rfl rfl (any_of HT_.out (by kernel_rfl)) (fun _ _ _ h => h) (Or.inl ⟨by rfl, ?_⟩) ?_ ?_
                                                  rotate_left
                                                  · intro w'
                                                    go_simp
                                                    with_reducible rfl
                                                  rotate_left
                                                  · simp only [Act.put, List.setIfInBounds_toArray, List.set_cons_zero, List.set_cons_succ, i64_w, i32_w]
                                                    rfl
                                                  refine pure_ (i := 5) (N := some 92) (v := ?_) (a' := ?_) #[false, true, true, true, false, true, false, false, false, false, false] rfl rfl (any_of HT_.out (by kernel_rfl)) (fun _ _ _ h => h) (Or.inl ⟨by rfl, ?_⟩) ?_ ?_
                                                  rotate_left
                                                  · intro w'
                                                    go_simp
                                                    with_reducible rfl
                                                  rotate_left
                                                  · simp only [Act.put, List.setIfInBounds_toArray, List.set_cons_zero, List.set_cons_succ, i64_w, i32_w]
                                                    rfl
                                                  refine pure_ (i := 6) (N := some 93) (v := ?_) (a' := ?_) #[false, true, true, true, false, true, true, false, false, false, false] rfl rfl (any_of HT_.out (by kernel_rfl)) (fun _ _ _ h => h) (Or.inl ⟨by rfl, ?_⟩) ?_ ?_
                                                  rotate_left
                                                  · intro w'
                                                    go_simp
                                                    with_reducible rfl
                                                  rotate_left
                                                  · simp only [Act.put, List.setIfInBounds_toArray, List.set_cons_zero, List.set_cons_succ, i64_w, i32_w]
                                                    rfl
                                                  refine pure_ (i := 7) (N := some 94) (v := ?_) (a' := ?_) #[false, true, true, true, false, true, true, true, false, false, false] rfl rfl (any_of HT_.out (by kernel_rfl)) (fun _ _ _ h => h) (Or.inl ⟨by rfl, ?_⟩) ?_ ?_
                                                  rotate_left
                                                  · intro w'
                                                    go_simp
                                                    with_reducible rfl
                                                  rotate_left
                                                  · simp only [Act.put, List.setIfInBounds_toArray, List.set_cons_zero, List.set_cons_succ, i64_w, i32_w]
                                                    rfl
                                                  refine pure_ (i := 8) (N := some 95) (v := ?_) (a' := ?_) #[false, true, true, true, false, true, true, true, true, false, false] rfl rfl (any_of HT_.out (by kernel_rfl)) (fun _ _ _ h => h) (Or.inl ⟨by rfl, ?_⟩) ?_ ?_
                                                  rotate_left
                                                  · intro w'
                                                    go_simp
                                                    with_reducible rfl
                                                  rotate_left
                                                  · simp only [Act.put, List.setIfInBounds_toArray, List.set_cons_zero, List.set_cons_succ, i64_w, i32_w]
                                                    rfl
                                                  refine one_ (i := 0) (N := some 87) #[true, true, true, true, false, true, true, true, true, false, false] rfl rfl (one_of HT_.out (by kernel_rfl)) (by decide) (fun K hK => ?_)
                                                  refine Kd.R_lit_step k29 _ 29 ?hg (N := 87) ?hd (xs := ([] : List (S29))) (inner := []) (ok := fun _ => True) (okp := fun _ => True) ?hr ?hp (fun _ hk => hk) trivial (Below.refl _ _) (Nat.le_refl _) (by simp) ?_; (case hd => rfl); (case hg => rfl); (case hr => first | (go_simp; done) | (go_simp; rfl)); (case hp => exact (Reps.none _ _))
                                                  intro v152 w144 ho145 hb hg_ hnew_
                                                  clear hg_ hnew_
                                                  (first | rw [← Ny151.out] at ho145 | (simp only [Int.reduceToNat] at ho145; rw [← Ny151.out] at ho145))
                                                  have n0_ := Aside0.mk (Kd.R_elder' (by (with_reducible repeat (first | apply Kd.R_alloc | apply Kd.R_drewN | apply Kd.R_drew)); exact HO149.out) (Kd.R_base ho145) hb)
                                                  have n1_ := Aside0.mk (Kd.R_lower (Kd.R_new' ho145 (Kd.R_lt (by (with_reducible repeat (first | apply Kd.R_alloc | apply Kd.R_drewN | apply Kd.R_drew)); exact HO149.out))) (below_size (by repeat (first | (with_reducible first | exact HB.out | apply below_alloc | apply pw_below_drewN | apply below_drew1) | exact HB.out))))
                                                  have n2_ := Aside0.mk (below_step (by repeat (first | (with_reducible first | exact HB.out | apply below_alloc | apply pw_below_drewN | apply below_drew1) | exact HB.out)) hb)
                                                  clear HO149
                                                  clear HB
                                                  have HO149 := n0_
                                                  have HO153 := n1_
                                                  have HB := n2_
                                                  clear n0_ n1_ n2_
                                                  clear hb ho145
                                                  refine hK.out _ _ trivial (fun hHeld => ?_)
                                                  clear hK K
                                                  refine norm_ (a' := ?_) ?_ ?_
                                                  rotate_left
                                                  · show Act.put _ (some 87) _ = _
                                                    simp only [Act.put, List.setIfInBounds_toArray, List.set_cons_zero, List.set_cons_succ, i64_w, i32_w]
                                                    rfl
                                                  refine one_ (i := 4) (N := some 91) #[true, true, true, true, true, true, true, true, true, false, false] rfl rfl (one_of HT_.out (by kernel_rfl)) (by decide) (fun K hK => ?_)
                                                  refine Kd.R_append_rows_step k29 (w0 := w) w.heap.size (by rfl) (.tmp 87) (.tmp 90) 22 29 (.agg #[(.bool false), (.bool false), (.bool false)]) 3 rfl Try.underlying22 info29 rfl (by decide) (by omega) v152 y151 y154 _ _ _ (fun k_ => some k_ ≠ (.slice (some ⟨go78, 0, none⟩) y147.length co78 : Value).ownBlock) (fun _ => False) rfl rfl ?aO ?aR (fun _ _ h => h) (fun _ h => h.elim) ?aF ?aB ?aS ?aL ?_
                                                  (case aR => repeat (first | exact (Kd.C_below HR157.out HB.out) | (with_reducible refine Kd.C_alloc ?_ _) | (with_reducible refine Kd.C_drewN ?_ _) | (with_reducible refine Kd.C_drew ?_)))
                                                  (case aB => exact (by repeat (first | (with_reducible first | exact HB.out | apply below_alloc | apply pw_below_drewN | apply below_drew1) | exact HB.out)))
                                                  (case aF => exact (fun k_ hk => Kd.fresh' (Kd.R_lt (by (with_reducible repeat (first | apply Kd.R_alloc | apply Kd.R_drewN | apply Kd.R_drew)); exact HO149.out)) k_ hk))
                                                  (case aO => exact (by (with_reducible repeat (first | apply Kd.R_alloc | apply Kd.R_drewN | apply Kd.R_drew)); exact Kd.R_mono HO153.out (fun _ hk => hk.2)))
                                                  (case aS => exact (below_size (by repeat (first | (with_reducible first | exact HB.out | apply below_alloc | apply pw_below_drewN | apply below_drew1) | exact HB.out))))
                                                  (case aL => have := LMc81.out; omega)
                                                  intro v159 w146 ho hb hg hat
                                                  rw [← Ny158.out] at ho
                                                  have n0_ := Aside0.mk (Kd.R_after (ok := (fun _ => True)) (by (with_reducible repeat (first | apply Kd.R_alloc | apply Kd.R_drewN | apply Kd.R_drew)); exact HO149.out) hg hat)
                                                  have n1_ := Aside0.mk (hb)
                                                  have n2_ := Aside0.mk (ho)
                                                  clear HO149
                                                  clear HB
                                                  clear HO153
                                                  have HO149 := n0_
                                                  have HB := n1_
                                                  have HO160 := n2_
                                                  clear n0_ n1_ n2_
                                                  clear ho hb hg hat
                                                  refine hK.out _ _ trivial (fun hHeld => ?_)
                                                  clear hK K
                                                  refine norm_ (a' := ?_) ?_ ?_
                                                  rotate_left
                                                  · show Act.put _ (some 91) _ = _
                                                    simp only [Act.put, List.setIfInBounds_toArray, List.set_cons_zero, List.set_cons_succ, i64_w, i32_w]
                                                    rfl
                                                  refine one_ (i := 9) (N := some 96) #[true, true, true, true, true, true, true, true, true, true, false] rfl rfl (one_of HT_.out (by kernel_rfl)) (by decide) (fun K hK => ?_)
                                                  refine Kd.R_append_rows_step k29 (w0 := w) w.heap.size (by rfl) (.tmp 91) (.tmp 95) 22 29 (.agg #[(.bool false), (.bool false), (.bool false)]) 3 rfl Try.underlying22 info29 rfl (by decide) (by omega) v159 y158 y161 _ _ _ (fun k_ => some k_ ≠ (.slice (some ⟨go78, 0, none⟩) y147.length co78 : Value).ownBlock) (fun _ => False) rfl rfl ?aO ?aR (fun _ _ h => h) (fun _ h => h.elim) ?aF ?aB ?aS ?aL ?_
                                                  (case aR => repeat (first | exact (Kd.C_below HR164.out HB.out) | (with_reducible refine Kd.C_alloc ?_ _) | (with_reducible refine Kd.C_drewN ?_ _) | (with_reducible refine Kd.C_drew ?_)))
                                                  (case aB => exact (by repeat (first | (with_reducible first | exact HB.out | apply below_alloc | apply pw_below_drewN | apply below_drew1) | exact HB.out)))
                                                  (case aF => exact (fun k_ hk => Kd.fresh' (Kd.R_lt (by (with_reducible repeat (first | apply Kd.R_alloc | apply Kd.R_drewN | apply Kd.R_drew)); exact HO149.out)) k_ hk))
                                                  (case aO => exact (by (with_reducible repeat (first | apply Kd.R_alloc | apply Kd.R_drewN | apply Kd.R_drew)); exact HO160.out))
                                                  (case aS => exact (below_size (by repeat (first | (with_reducible first | exact HB.out | apply below_alloc | apply pw_below_drewN | apply below_drew1) | exact HB.out))))
                                                  (case aL => have := LMc85.out; omega)
                                                  intro v166 w147 ho hb hg hat
                                                  rw [← Ny165.out] at ho
                                                  have n0_ := Aside0.mk (Kd.R_after (ok := (fun _ => True)) (by (with_reducible repeat (first | apply Kd.R_alloc | apply Kd.R_drewN | apply Kd.R_drew)); exact HO149.out) hg hat)
                                                  have n1_ := Aside0.mk (hb)
                                                  have n2_ := Aside0.mk (ho)
                                                  clear HO149
                                                  clear HB
                                                  clear HO160
                                                  have HO149 := n0_
                                                  have HB := n1_
                                                  have HO167 := n2_
                                                  clear n0_ n1_ n2_
                                                  clear ho hb hg hat
                                                  refine hK.out _ _ trivial (fun hHeld => ?_)
                                                  clear hK K
                                                  refine norm_ (a' := ?_) ?_ ?_
                                                  rotate_left
                                                  · show Act.put _ (some 96) _ = _
                                                    simp only [Act.put, List.setIfInBounds_toArray, List.set_cons_zero, List.set_cons_succ, i64_w, i32_w]
                                                    rfl
                                                  refine pure_ (i := 10) (N := some 13) (v := ?_) (a' := ?_) #[true, true, true, true, true, true, true, true, true, true, true] rfl rfl (any_of HT_.out (by kernel_rfl)) (fun _ _ _ h => h) (Or.inl ⟨by rfl, ?_⟩) ?_ ?_
                                                  rotate_left
                                                  · intro w'
                                                    go_simp
                                                    with_reducible rfl
                                                  rotate_left
                                                  · simp only [Act.put, List.setIfInBounds_toArray, List.set_cons_zero, List.set_cons_succ, i64_w, i32_w]
                                                    rfl
                                                  refine done_ (done_of HT_.out (by kernel_rfl)) ?_
                                                  try go_wp2_with (first | (go_at_call 13; refine calls_of_args (args' := #[.int .i64 a0, .slice (some ⟨go78, 0, none⟩) y150.length co78]) (by first | (rw [show y150.length = y147.length from (Kd.R_reads' HO149.out).1.symm] <;> rfl) | rfl) ?_; (with_reducible refine (vote_Trips.calls a0 _ _ y150 t168 _ ?side1 ?side2 A87.out).mono ?_); (case side1 => repeat (first | exact (Kd.R_reads' HO149.out).2.2 | (with_reducible refine Kd.C_alloc ?_ _) | (with_reducible refine Kd.C_drewN ?_ _) | (with_reducible refine Kd.C_drew ?_))); (case side2 => rw [show y150.length = y147.length from (Kd.R_reads' HO149.out).1.symm]; exact (Kd.R_reads' HO149.out).2.1); rintro e w148 ⟨rfl, hb⟩; have n0_ := Aside0.mk (Kd.R_below (by (with_reducible repeat (first | apply Kd.R_alloc | apply Kd.R_drewN | apply Kd.R_drew)); exact HO149.out) hb); have n1_ := Aside0.mk (Kd.R_below (by (with_reducible repeat (first | apply Kd.R_alloc | apply Kd.R_drewN | apply Kd.R_drew)); exact HO167.out) hb); have n2_ := Aside0.mk (below_step (by repeat (first | (with_reducible first | exact HB.out | apply below_alloc | apply pw_below_drewN | apply below_drew1) | exact HB.out)) hb); clear HO149; clear HO167; clear HB; have HO149 := n0_; have HO167 := n1_; have HB := n2_; clear n0_ n1_ n2_; (try clear hb); (try clear hb2); (try clear hgn); (try clear hk); (try clear hi); obtain ⟨Ao149, co149, eo149⟩ := Kd.R_slice HO167.out; subst eo149) | (go_at_call 13; (with_reducible refine (vote_Trips.calls a0 _ _ y165 t169 _ ?side1 ?side2 A88.out).mono ?_); (case side1 => repeat (first | exact (Kd.R_reads' HO167.out).2.2 | (with_reducible refine Kd.C_alloc ?_ _) | (with_reducible refine Kd.C_drewN ?_ _) | (with_reducible refine Kd.C_drew ?_))); (case side2 => exact (Kd.R_reads' HO167.out).2.1); rintro e w150 ⟨rfl, hb⟩; have n0_ := Aside0.mk (Kd.R_below (by (with_reducible repeat (first | apply Kd.R_alloc | apply Kd.R_drewN | apply Kd.R_drew)); exact HO149.out) hb); have n1_ := Aside0.mk (Kd.R_below (by (with_reducible repeat (first | apply Kd.R_alloc | apply Kd.R_drewN | apply Kd.R_drew)); exact HO167.out) hb); have n2_ := Aside0.mk (below_step (by repeat (first | (with_reducible first | exact HB.out | apply below_alloc | apply pw_below_drewN | apply below_drew1) | exact HB.out)) hb); clear HO149; clear HO167; clear HB; have HO149 := n0_; have HO167 := n1_; have HB := n2_; clear n0_ n1_ n2_; (try clear hb); (try clear hb2); (try clear hgn); (try clear hk); (try clear hi)) | (go_at_call 9; refine calls_of_args (args' := #[.slice (some ⟨go78, 0, none⟩) y150.length co78]) (by first | (rw [show y150.length = y147.length from (Kd.R_reads' HO149.out).1.symm] <;> rfl) | rfl) ?_; (with_reducible refine (vote_Yes.calls _ _ y150 t170 _ ?side1 ?side2 A90.out).mono ?_); (case side1 => repeat (first | exact (Kd.R_reads' HO149.out).2.2 | (with_reducible refine Kd.C_alloc ?_ _) | (with_reducible refine Kd.C_drewN ?_ _) | (with_reducible refine Kd.C_drew ?_))); (case side2 => rw [show y150.length = y147.length from (Kd.R_reads' HO149.out).1.symm]; exact (Kd.R_reads' HO149.out).2.1); rintro e w151 ⟨rfl, hb⟩; have n0_ := Aside0.mk (Kd.R_below (by (with_reducible repeat (first | apply Kd.R_alloc | apply Kd.R_drewN | apply Kd.R_drew)); exact HO149.out) hb); have n1_ := Aside0.mk (Kd.R_below (by (with_reducible repeat (first | apply Kd.R_alloc | apply Kd.R_drewN | apply Kd.R_drew)); exact HO167.out) hb); have n2_ := Aside0.mk (below_step (by repeat (first | (with_reducible first | exact HB.out | apply below_alloc | apply pw_below_drewN | apply below_drew1) | exact HB.out)) hb); clear HO149; clear HO167; clear HB; have HO149 := n0_; have HO167 := n1_; have HB := n2_; clear n0_ n1_ n2_; (try clear hb); (try clear hb2); (try clear hgn); (try clear hk); (try clear hi)) | (go_at_call 9; (with_reducible refine (vote_Yes.calls _ _ y165 t171 _ ?side1 ?side2 A91.out).mono ?_); (case side1 => repeat (first | exact (Kd.R_reads' HO167.out).2.2 | (with_reducible refine Kd.C_alloc ?_ _) | (with_reducible refine Kd.C_drewN ?_ _) | (with_reducible refine Kd.C_drew ?_))); (case side2 => exact (Kd.R_reads' HO167.out).2.1); rintro e w152 ⟨rfl, hb⟩; have n0_ := Aside0.mk (Kd.R_below (by (with_reducible repeat (first | apply Kd.R_alloc | apply Kd.R_drewN | apply Kd.R_drew)); exact HO149.out) hb); have n1_ := Aside0.mk (Kd.R_below (by (with_reducible repeat (first | apply Kd.R_alloc | apply Kd.R_drewN | apply Kd.R_drew)); exact HO167.out) hb); have n2_ := Aside0.mk (below_step (by repeat (first | (with_reducible first | exact HB.out | apply below_alloc | apply pw_below_drewN | apply below_drew1) | exact HB.out)) hb); clear HO149; clear HO167; clear HB; have HO149 := n0_; have HO167 := n1_; have HB := n2_; clear n0_ n1_ n2_; (try clear hb); (try clear hb2); (try clear hgn); (try clear hk); (try clear hi)))
                                                  go_ret
                                                  exact ⟨by first | rfl | (simp [errW_none, errW_some] <;> rfl) | (simp only [← hji75, ← hji82]; first | rfl | (simp [errW_none, errW_some] <;> rfl)) | (simp [*, errW_none, errW_some] <;> rfl), by repeat (first | (with_reducible first | exact HB.out | apply below_alloc | apply pw_below_drewN | apply below_drew1) | exact HB.out)⟩
                                              · rw [if_neg c89] at H
                                                have c89b0 : (t168 == t169) = false := by simpa using c89
                                                (try (have c89b1 : decide (t168 = t169) = false := by simpa using c89))
                                                (try (have c89b2 : (t168 == t169) = false := by simpa using c89))
                                                (try (have c89b3 : ¬ (t168 = t169) := by simpa using c89))
                                                clear c89
                                                obtain rfl := Option.some.inj H
                                                try go_wp2_with (first | ((with_reducible refine gate_dst (N := 80) rfl ?_); (try (refine gate_guard (by rfl) ?_; dsimp only)); refine Kd.R_lit k29 _ 29 ?hg (N := 80) ?hd (xs := ([] : List (S29))) (inner := []) (ok := fun _ => True) (okp := fun _ => True) ?hr ?hp (fun _ hk => hk) trivial (Below.refl _ _) (Nat.le_refl _) (by simp) ?_; (case hd => rfl); (case hg => rfl); (case hr => first | (go_simp; done) | (go_simp; rfl)); (case hp => exact (Reps.none _ _)); intro v145 w153 ho154 hb hg_ hnew_; clear hg_ hnew_; (first | rw [← Ny144.out] at ho154 | (simp only [Int.reduceToNat] at ho154; rw [← Ny144.out] at ho154)); have n0_ := Aside0.mk (Kd.R_lower ho154 (below_size (by repeat (first | (with_reducible first | exact HB.out | apply below_alloc | apply pw_below_drewN | apply below_drew1) | exact HB.out)))); have n1_ := Aside0.mk (below_step (by repeat (first | (with_reducible first | exact HB.out | apply below_alloc | apply pw_below_drewN | apply below_drew1) | exact HB.out)) hb); clear HB; have HO146 := n0_; have HB := n1_; clear n0_ n1_; clear hb ho154) | ((with_reducible refine gate_builtin (b := .append) (xs := #[.tmp 80, .tmp 81]) rfl ?_); (try (refine gate_guard (by rfl) ?_; dsimp only)); at_builtin; refine Kd.R_append_rows k29 (w0 := w) w.heap.size rfl (.tmp 80) (.tmp 81) 22 29 (.agg #[(.bool false), (.bool false), (.bool false)]) 3 rfl Try.underlying22 info29 rfl (by decide) (by omega) v145 y144 l1 _ _ _ (fun _ => True) (fun _ => False) rfl rfl ?aO ?aR (fun _ _ h => h) (fun _ h => h.elim) ?aF ?aB ?aS ?aL ?_; (case aR => repeat (first | exact (Kd.C_below HR1.out HB.out) | (with_reducible refine Kd.C_alloc ?_ _) | (with_reducible refine Kd.C_drewN ?_ _) | (with_reducible refine Kd.C_drew ?_))); (case aB => exact (by repeat (first | (with_reducible first | exact HB.out | apply below_alloc | apply pw_below_drewN | apply below_drew1) | exact HB.out))); (case aF => exact (fun _ _ => trivial)); (case aO => exact (by (with_reducible repeat (first | apply Kd.R_alloc | apply Kd.R_drewN | apply Kd.R_drew)); exact HO146.out)); (case aS => exact (below_size (by repeat (first | (with_reducible first | exact HB.out | apply below_alloc | apply pw_below_drewN | apply below_drew1) | exact HB.out)))); (case aL => have := LMc74.out; omega); intro v148 w155 ho hb hg hat; rw [← Ny147.out] at ho; have n0_ := Aside0.mk (hb); have n1_ := Aside0.mk (ho); clear HB; clear HO146; have HB := n0_; have HO149 := n1_; clear n0_ n1_; clear ho hb hg hat; have p78 : 0 ≤ ((ji75) : Int) := of_decide_eq_true (by first | (with_reducible assumption) | assumption); have q78 : ((ji75) : Int) < ((y147.length : Int) : Int) := of_decide_eq_true (by first | (with_reducible assumption) | assumption); obtain ⟨go78, co78, eo78, gb78, gl78, cl78, HG78⟩ := Kd.R_form HO149.out (by omega); (first | cases eo78 | (injection eo78 with ea_ en_ ec_; (first | subst ea_ | (injection ea_ with ea_; subst ea_)); subst ec_; clear en_)); have GB78 := Aside0.mk gb78; have GG78 := Aside0.mk HG78; clear gb78 gl78 HG78; obtain ⟨ce78, hcl78, hM78, hcc78, hfr78⟩ := Kd.R_elem HO149.out z29 ((ji75) : Int) p78 q78; obtain rfl := k29_openM hM78; have hx78_0 : w155.cell? ⟨go78, ((ji75) : Int).toNat * 3, none⟩ = some (.bool ((rd_T29 y147 (ji75)).f0)) := hcc78 0 _ rfl; have hx78_1 : w155.cell? ⟨go78, ((ji75) : Int).toNat * 3 + 1, none⟩ = some (.bool ((rd_T29 y147 (ji75)).f1)) := hcc78 1 _ rfl; have hx78_2 : w155.cell? ⟨go78, ((ji75) : Int).toNat * 3 + 2, none⟩ = some (.bool ((rd_T29 y147 (ji75)).f2)) := hcc78 2 _ rfl; have hf78_0 : w155.frozen? ⟨go78, ((ji75) : Int).toNat * 3, none⟩ = false := hfr78 0; have hf78_1 : w155.frozen? ⟨go78, ((ji75) : Int).toNat * 3 + 1, none⟩ = false := hfr78 1; have hf78_2 : w155.frozen? ⟨go78, ((ji75) : Int).toNat * 3 + 2, none⟩ = false := hfr78 2; clear hcl78 hcc78 hfr78 hM78; replace p78 := eq_true p78; replace q78 := eq_true q78; have HX156 := Aside0.mk (show Kd.R k29 29 w155 w.heap.size (fun _ => True) (.slice (some ⟨go78, 0, none⟩) y147.length co78) y147 from (by (with_reducible repeat (first | apply Kd.R_alloc | apply Kd.R_drewN | apply Kd.R_drew)); exact HO149.out)); obtain ⟨ce156, hcl156, hM156, hcc156, hfr156⟩ := Kd.R_elem HX156.out z29 ((ji75) : Int) (of_decide_eq_true (by first | (with_reducible assumption) | assumption)) (by have h_ : ((ji75) : Int) < ((y147.length : Int) : Int) := of_decide_eq_true (by first | (with_reducible assumption) | assumption); first | exact h_ | (have e_ := (Kd.R_reads' HO149.out).1; omega) | simpa using h_); obtain rfl := k29_openM hM156; have HP156 := Kd.R_seg HX156.out ((ji75) : Int) (of_decide_eq_true (by first | (with_reducible assumption) | assumption)) (by have h_ : ((ji75) : Int) < ((y147.length : Int) : Int) := of_decide_eq_true (by first | (with_reducible assumption) | assumption); first | exact h_ | (have e_ := (Kd.R_reads' HO149.out).1; omega) | simpa using h_) (seg := [.bool false, .bool false, .bool true]) (j := 0) hcl156 hcc156 (show 3 ≤ 3 from by decide) (x' := (⟨false, false, true⟩ : S29)) (k29_mkM _ _ _ (⟨false, false, true⟩ : S29) ) (fun _ hk => hk); have hx156_0 := hcc156 0 _ rfl; (try simp only [show (k29).sz = 3 from rfl, Nat.mul_one, Nat.add_zero] at hx156_0); have hf156_0 := hfr156 0; (try simp only [show (k29).sz = 3 from rfl, Nat.mul_one, Nat.add_zero] at hf156_0); have hx156_1 := hcc156 1 _ rfl; (try simp only [show (k29).sz = 3 from rfl, Nat.mul_one, Nat.add_zero] at hx156_1); have hf156_1 := hfr156 1; (try simp only [show (k29).sz = 3 from rfl, Nat.mul_one, Nat.add_zero] at hf156_1); have hx156_2 := hcc156 2 _ rfl; (try simp only [show (k29).sz = 3 from rfl, Nat.mul_one, Nat.add_zero] at hx156_2); have hf156_2 := hfr156 2; (try simp only [show (k29).sz = 3 from rfl, Nat.mul_one, Nat.add_zero] at hf156_2); clear hcl156 hcc156 hfr156 hM156) | ((with_reducible refine gate_store (t := 29) (p := 86) rfl ?_); refine store_event (t := 29) (p := 86) (v := ?vo_w157) (w1 := (((w155.setCell ⟨go78, ((ji75) : Int).toNat * 3, none⟩ (.bool false)).setCell ⟨go78, ((ji75) : Int).toNat * 3 + 1, none⟩ (.bool false)).setCell ⟨go78, ((ji75) : Int).toNat * 3 + 2, none⟩ (.bool true))) ?hg ?ho ?hn ?hr ?_; (case ho => rfl); (case hg => rfl); (case hn => rfl); (case hr => first | (go_simp; done) | (go_simp; rfl)); intro w157 hw; have hg : w155.grownBy w157 (some go78) := (by rw [hw]; exact HP156.2); have hp_ : Kd.R k29 29 w157 w.heap.size (fun _ => True) (.slice (some ⟨go78, 0, none⟩) y147.length co78) y150 := (by rw [hw, Ny150.out]; exact HP156.1); clear HP156; have n0_ := Aside0.mk (hp_); have n1_ := Aside0.mk ((by rw [hw]; exact below_set (below_set (below_set (HB.out) GB78.out) GB78.out) GB78.out : Below w.heap.size w w157)); clear HO149; clear HB; have HO149 := n0_; have HB := n1_; clear n0_ n1_; clear hg hw hp_))
                                                have n0_ := Aside0.mk (Kd.R_drew HO149.out)
                                                have n1_ := Aside0.mk (below_drew1 HB.out)
                                                clear HO149
                                                clear HB
                                                have HO149 := n0_
                                                have HB := n1_
                                                clear n0_ n1_
                                                have q159 : ((ji75) : Int) ≤ ((l1.length : Int) : Int) := of_decide_eq_true (by first | (with_reducible assumption) | assumption)
                                                obtain ⟨i0159, hi0159, _, hsz159, _⟩ := info_parts info29
                                                have hroom159 : l1.length ≤ c1 := HC1.out
                                                have hC159 : Kd.C k29 _ A1 l1.length l1 := HR1.out
                                                have hcut159 := cut_to (P := Try.prog) 22 29 .i64 Try.underlying22 hi0159 A1 l1.length c1 (ji75) (of_decide_eq_true (by first | (with_reducible assumption) | assumption)) q159 hroom159
                                                have hr159 := Kd.C_take (m := ((ji75) : Int).toNat) hC159 (by omega)
                                                have hy159 : y154.length = ((ji75) : Int).toNat := (by rw [Ny154.out, List.length_take]; omega)
                                                rw [← Ny154.out] at hr159
                                                rw [← hy159] at hcut159
                                                have HR157 := Aside0.mk hr159
                                                have HC157 := Aside0.mk (show y154.length ≤ c1 from by omega)
                                                clear hr159 hC159 hroom159 hi0159 hsz159
                                                have KY159 := Aside0.mk hy159
                                                clear hy159
                                                replace q159 := eq_true q159
                                                have q160 : ((ji82) : Int) ≤ ((l1.length : Int) : Int) := of_decide_eq_true (by first | (with_reducible assumption) | assumption)
                                                obtain ⟨i0160, hi0160, _, hsz160, _⟩ := info_parts info29
                                                have hroom160 : l1.length ≤ c1 := HC1.out
                                                have hC160 : Kd.C k29 _ A1 l1.length l1 := HR1.out
                                                have q0160 : (0 : Int) ≤ ((ji82) : Int) := of_decide_eq_true (by first | (with_reducible assumption) | assumption)
                                                have hcut160 := cut_from (P := Try.prog) 22 29 .i64 Try.underlying22 hi0160 3 hsz160 A1 l1.length c1 (ji82) q0160 q160
                                                have hr160 := Kd.C_drop (m := ((ji82) : Int).toNat) (c := c1) hC160 (by omega) hroom160
                                                obtain ⟨A160, hA160⟩ : ∃ Az_, Az_ = (if c1 = ((ji82) : Int).toNat then A1 else (A1 : Option Addr).map (·.add (((ji82) : Int).toNat * 3))) := ⟨_, rfl⟩
                                                obtain ⟨c160, hc160⟩ : ∃ cz_, cz_ = c1 - ((ji82) : Int).toNat := ⟨_, rfl⟩
                                                have hy160 : y161.length = l1.length - ((ji82) : Int).toNat := (by rw [Ny161.out, List.length_drop] <;> omega)
                                                rw [show (l1).drop ((ji82) : Int).toNat = y161 from Ny161.out.symm] at hr160
                                                replace hr160 : Kd.C k29 _ A160 y161.length y161 := (by rw [hA160]; exact hr160)
                                                rw [← hy160, ← hA160, ← hc160] at hcut160
                                                have HR164 := Aside0.mk hr160
                                                have HC164 := Aside0.mk (show y161.length ≤ c160 from by rw [hy160, hc160]; exact Nat.sub_le_sub_right hroom160 _)
                                                clear hr160 hC160 hroom160 hi0160 hsz160 hc160
                                                have KY160 := Aside0.mk hy160
                                                have KA160 := Aside0.mk hA160
                                                clear hy160 hA160
                                                replace q160 := eq_true q160
                                                refine start_ (n := 11) (S := fun w' => True) (ds := []) #[false, false, false, false, false, false, false, false, false, false, false] (by kernel_rfl) rfl rfl trivial (fun hHeld => ?_); refine with_tabW watchkeeperlaw13_VoteMore.tab15 watchkeeperlaw13_VoteMore.bits15 (fun HT_ HW_ => ?_)
                                                generalize w157.drew = w158 at HO149 HB HR157 HR164 hHeld ⊢
                                                refine pure_ (i := 1) (N := some 88) (v := ?_) (a' := ?_) #[false, true, false, false, false, false, false, false, false, false, false] rfl rfl (any_of HT_.out (by kernel_rfl)) (fun _ _ _ h => h) (Or.inl ⟨by rfl, ?_⟩) ?_ ?_
                                                rotate_left
                                                · intro w'
                                                  go_simp
                                                  with_reducible rfl
                                                rotate_left
                                                · simp only [Act.put, List.setIfInBounds_toArray, List.set_cons_zero, List.set_cons_succ, i64_w, i32_w]
                                                  rfl
                                                refine pure_ (i := 2) (N := some 89) (v := ?_) (a' := ?_) #[false, true, true, false, false, false, false, false, false, false, false] rfl rfl (any_of HT_.out (by kernel_rfl)) (fun _ _ _ h => h) (Or.inl ⟨by rfl, ?_⟩) ?_ ?_
                                                rotate_left
                                                · intro w'
                                                  go_simp
                                                  with_reducible rfl
                                                rotate_left
                                                · simp only [Act.put, List.setIfInBounds_toArray, List.set_cons_zero, List.set_cons_succ, i64_w, i32_w]
                                                  rfl
                                                refine pure_ (i := 3) (N := some 90) (v := ?_) (a' := ?_) #[false, true, true, true, false, false, false, false, false, false, false] rfl rfl (any_of HT_.out (by kernel_rfl)) (fun _ _ _ h => h) (Or.inl ⟨by rfl, ?_⟩) ?_ ?_
                                                rotate_left
                                                · intro w'
                                                  go_simp
                                                  with_reducible rfl
                                                rotate_left
                                                · simp only [Act.put, List.setIfInBounds_toArray, List.set_cons_zero, List.set_cons_succ, i64_w, i32_w]
                                                  rfl
                                                refine pure_ (i := 5) (N := some 92) (v := ?_) (a' := ?_) #[false, true, true, true, false, true, false, false, false, false, false] rfl rfl (any_of HT_.out (by kernel_rfl)) (fun _ _ _ h => h) (Or.inl ⟨by rfl, ?_⟩) ?_ ?_
                                                rotate_left
                                                · intro w'
                                                  go_simp
                                                  with_reducible rfl
                                                rotate_left
                                                · simp only [Act.put, List.setIfInBounds_toArray, List.set_cons_zero, List.set_cons_succ, i64_w, i32_w]
                                                  rfl
                                                refine pure_ (i := 6) (N := some 93) (v := ?_) (a' := ?_) #[false, true, true, true, false, true, true, false, false, false, false] rfl rfl (any_of HT_.out (by kernel_rfl)) (fun _ _ _ h => h) (Or.inl ⟨by rfl, ?_⟩) ?_ ?_
                                                rotate_left
                                                · intro w'
                                                  go_simp
                                                  with_reducible rfl
                                                rotate_left
                                                · simp only [Act.put, List.setIfInBounds_toArray, List.set_cons_zero, List.set_cons_succ, i64_w, i32_w]
                                                  rfl
                                                refine pure_ (i := 7) (N := some 94) (v := ?_) (a' := ?_) #[false, true, true, true, false, true, true, true, false, false, false] rfl rfl (any_of HT_.out (by kernel_rfl)) (fun _ _ _ h => h) (Or.inl ⟨by rfl, ?_⟩) ?_ ?_
                                                rotate_left
                                                · intro w'
                                                  go_simp
                                                  with_reducible rfl
                                                rotate_left
                                                · simp only [Act.put, List.setIfInBounds_toArray, List.set_cons_zero, List.set_cons_succ, i64_w, i32_w]
                                                  rfl
                                                refine pure_ (i := 8) (N := some 95) (v := ?_) (a' := ?_) #[false, true, true, true, false, true, true, true, true, false, false] rfl rfl (any_of HT_.out (by kernel_rfl)) (fun _ _ _ h => h) (Or.inl ⟨by rfl, ?_⟩) ?_ ?_
                                                rotate_left
                                                · intro w'
                                                  go_simp
                                                  with_reducible rfl
                                                rotate_left
                                                · simp only [Act.put, List.setIfInBounds_toArray, List.set_cons_zero, List.set_cons_succ, i64_w, i32_w]
                                                  rfl
                                                refine one_ (i := 0) (N := some 87) #[true, true, true, true, false, true, true, true, true, false, false] rfl rfl (one_of HT_.out (by kernel_rfl)) (by decide) (fun K hK => ?_)
                                                refine Kd.R_lit_step k29 _ 29 ?hg (N := 87) ?hd (xs := ([] : List (S29))) (inner := []) (ok := fun _ => True) (okp := fun _ => True) ?hr ?hp (fun _ hk => hk) trivial (Below.refl _ _) (Nat.le_refl _) (by simp) ?_; (case hd => rfl); (case hg => rfl); (case hr => first | (go_simp; done) | (go_simp; rfl)); (case hp => exact (Reps.none _ _))
                                                intro v152 w161 ho162 hb hg_ hnew_
                                                clear hg_ hnew_
                                                (first | rw [← Ny151.out] at ho162 | (simp only [Int.reduceToNat] at ho162; rw [← Ny151.out] at ho162))
                                                have n0_ := Aside0.mk (Kd.R_elder' (by (with_reducible repeat (first | apply Kd.R_alloc | apply Kd.R_drewN | apply Kd.R_drew)); exact HO149.out) (Kd.R_base ho162) hb)
                                                have n1_ := Aside0.mk (Kd.R_lower (Kd.R_new' ho162 (Kd.R_lt (by (with_reducible repeat (first | apply Kd.R_alloc | apply Kd.R_drewN | apply Kd.R_drew)); exact HO149.out))) (below_size (by repeat (first | (with_reducible first | exact HB.out | apply below_alloc | apply pw_below_drewN | apply below_drew1) | exact HB.out))))
                                                have n2_ := Aside0.mk (below_step (by repeat (first | (with_reducible first | exact HB.out | apply below_alloc | apply pw_below_drewN | apply below_drew1) | exact HB.out)) hb)
                                                clear HO149
                                                clear HB
                                                have HO149 := n0_
                                                have HO153 := n1_
                                                have HB := n2_
                                                clear n0_ n1_ n2_
                                                clear hb ho162
                                                refine hK.out _ _ trivial (fun hHeld => ?_)
                                                clear hK K
                                                refine norm_ (a' := ?_) ?_ ?_
                                                rotate_left
                                                · show Act.put _ (some 87) _ = _
                                                  simp only [Act.put, List.setIfInBounds_toArray, List.set_cons_zero, List.set_cons_succ, i64_w, i32_w]
                                                  rfl
                                                refine one_ (i := 4) (N := some 91) #[true, true, true, true, true, true, true, true, true, false, false] rfl rfl (one_of HT_.out (by kernel_rfl)) (by decide) (fun K hK => ?_)
                                                refine Kd.R_append_rows_step k29 (w0 := w) w.heap.size (by rfl) (.tmp 87) (.tmp 90) 22 29 (.agg #[(.bool false), (.bool false), (.bool false)]) 3 rfl Try.underlying22 info29 rfl (by decide) (by omega) v152 y151 y154 _ _ _ (fun k_ => some k_ ≠ (.slice (some ⟨go78, 0, none⟩) y147.length co78 : Value).ownBlock) (fun _ => False) rfl rfl ?aO ?aR (fun _ _ h => h) (fun _ h => h.elim) ?aF ?aB ?aS ?aL ?_
                                                (case aR => repeat (first | exact (Kd.C_below HR157.out HB.out) | (with_reducible refine Kd.C_alloc ?_ _) | (with_reducible refine Kd.C_drewN ?_ _) | (with_reducible refine Kd.C_drew ?_)))
                                                (case aB => exact (by repeat (first | (with_reducible first | exact HB.out | apply below_alloc | apply pw_below_drewN | apply below_drew1) | exact HB.out)))
                                                (case aF => exact (fun k_ hk => Kd.fresh' (Kd.R_lt (by (with_reducible repeat (first | apply Kd.R_alloc | apply Kd.R_drewN | apply Kd.R_drew)); exact HO149.out)) k_ hk))
                                                (case aO => exact (by (with_reducible repeat (first | apply Kd.R_alloc | apply Kd.R_drewN | apply Kd.R_drew)); exact Kd.R_mono HO153.out (fun _ hk => hk.2)))
                                                (case aS => exact (below_size (by repeat (first | (with_reducible first | exact HB.out | apply below_alloc | apply pw_below_drewN | apply below_drew1) | exact HB.out))))
                                                (case aL => have := LMc81.out; omega)
                                                intro v159 w163 ho hb hg hat
                                                rw [← Ny158.out] at ho
                                                have n0_ := Aside0.mk (Kd.R_after (ok := (fun _ => True)) (by (with_reducible repeat (first | apply Kd.R_alloc | apply Kd.R_drewN | apply Kd.R_drew)); exact HO149.out) hg hat)
                                                have n1_ := Aside0.mk (hb)
                                                have n2_ := Aside0.mk (ho)
                                                clear HO149
                                                clear HB
                                                clear HO153
                                                have HO149 := n0_
                                                have HB := n1_
                                                have HO160 := n2_
                                                clear n0_ n1_ n2_
                                                clear ho hb hg hat
                                                refine hK.out _ _ trivial (fun hHeld => ?_)
                                                clear hK K
                                                refine norm_ (a' := ?_) ?_ ?_
                                                rotate_left
                                                · show Act.put _ (some 91) _ = _
                                                  simp only [Act.put, List.setIfInBounds_toArray, List.set_cons_zero, List.set_cons_succ, i64_w, i32_w]
                                                  rfl
                                                refine one_ (i := 9) (N := some 96) #[true, true, true, true, true, true, true, true, true, true, false] rfl rfl (one_of HT_.out (by kernel_rfl)) (by decide) (fun K hK => ?_)
                                                refine Kd.R_append_rows_step k29 (w0 := w) w.heap.size (by rfl) (.tmp 91) (.tmp 95) 22 29 (.agg #[(.bool false), (.bool false), (.bool false)]) 3 rfl Try.underlying22 info29 rfl (by decide) (by omega) v159 y158 y161 _ _ _ (fun k_ => some k_ ≠ (.slice (some ⟨go78, 0, none⟩) y147.length co78 : Value).ownBlock) (fun _ => False) rfl rfl ?aO ?aR (fun _ _ h => h) (fun _ h => h.elim) ?aF ?aB ?aS ?aL ?_
                                                (case aR => repeat (first | exact (Kd.C_below HR164.out HB.out) | (with_reducible refine Kd.C_alloc ?_ _) | (with_reducible refine Kd.C_drewN ?_ _) | (with_reducible refine Kd.C_drew ?_)))
                                                (case aB => exact (by repeat (first | (with_reducible first | exact HB.out | apply below_alloc | apply pw_below_drewN | apply below_drew1) | exact HB.out)))
                                                (case aF => exact (fun k_ hk => Kd.fresh' (Kd.R_lt (by (with_reducible repeat (first | apply Kd.R_alloc | apply Kd.R_drewN | apply Kd.R_drew)); exact HO149.out)) k_ hk))
                                                (case aO => exact (by (with_reducible repeat (first | apply Kd.R_alloc | apply Kd.R_drewN | apply Kd.R_drew)); exact HO160.out))
                                                (case aS => exact (below_size (by repeat (first | (with_reducible first | exact HB.out | apply below_alloc | apply pw_below_drewN | apply below_drew1) | exact HB.out))))
                                                (case aL => have := LMc85.out; omega)
                                                intro v166 w164 ho hb hg hat
                                                rw [← Ny165.out] at ho
                                                have n0_ := Aside0.mk (Kd.R_after (ok := (fun _ => True)) (by (with_reducible repeat (first | apply Kd.R_alloc | apply Kd.R_drewN | apply Kd.R_drew)); exact HO149.out) hg hat)
                                                have n1_ := Aside0.mk (hb)
                                                have n2_ := Aside0.mk (ho)
                                                clear HO149
                                                clear HB
                                                clear HO160
                                                have HO149 := n0_
                                                have HB := n1_
                                                have HO167 := n2_
                                                clear n0_ n1_ n2_
                                                clear ho hb hg hat
                                                refine hK.out _ _ trivial (fun hHeld => ?_)
                                                clear hK K
                                                refine norm_ (a' := ?_) ?_ ?_
                                                rotate_left
                                                · show Act.put _ (some 96) _ = _
                                                  simp only [Act.put, List.setIfInBounds_toArray, List.set_cons_zero, List.set_cons_succ, i64_w, i32_w]
                                                  rfl
                                                refine pure_ (i := 10) (N := some 13) (v := ?_) (a' := ?_) #[true, true, true, true, true, true, true, true, true, true, true] rfl rfl (any_of HT_.out (by kernel_rfl)) (fun _ _ _ h => h) (Or.inl ⟨by rfl, ?_⟩) ?_ ?_
                                                rotate_left
                                                · intro w'
                                                  go_simp
                                                  with_reducible rfl
                                                rotate_left
                                                · simp only [Act.put, List.setIfInBounds_toArray, List.set_cons_zero, List.set_cons_succ, i64_w, i32_w]
                                                  rfl
                                                refine done_ (done_of HT_.out (by kernel_rfl)) ?_
                                                try go_wp2_with (first | (go_at_call 13; refine calls_of_args (args' := #[.int .i64 a0, .slice (some ⟨go78, 0, none⟩) y150.length co78]) (by first | (rw [show y150.length = y147.length from (Kd.R_reads' HO149.out).1.symm] <;> rfl) | rfl) ?_; (with_reducible refine (vote_Trips.calls a0 _ _ y150 t168 _ ?side1 ?side2 A87.out).mono ?_); (case side1 => repeat (first | exact (Kd.R_reads' HO149.out).2.2 | (with_reducible refine Kd.C_alloc ?_ _) | (with_reducible refine Kd.C_drewN ?_ _) | (with_reducible refine Kd.C_drew ?_))); (case side2 => rw [show y150.length = y147.length from (Kd.R_reads' HO149.out).1.symm]; exact (Kd.R_reads' HO149.out).2.1); rintro e w165 ⟨rfl, hb⟩; have n0_ := Aside0.mk (Kd.R_below (by (with_reducible repeat (first | apply Kd.R_alloc | apply Kd.R_drewN | apply Kd.R_drew)); exact HO149.out) hb); have n1_ := Aside0.mk (Kd.R_below (by (with_reducible repeat (first | apply Kd.R_alloc | apply Kd.R_drewN | apply Kd.R_drew)); exact HO167.out) hb); have n2_ := Aside0.mk (below_step (by repeat (first | (with_reducible first | exact HB.out | apply below_alloc | apply pw_below_drewN | apply below_drew1) | exact HB.out)) hb); clear HO149; clear HO167; clear HB; have HO149 := n0_; have HO167 := n1_; have HB := n2_; clear n0_ n1_ n2_; (try clear hb); (try clear hb2); (try clear hgn); (try clear hk); (try clear hi); obtain ⟨Ao166, co166, eo166⟩ := Kd.R_slice HO167.out; subst eo166) | (go_at_call 13; (with_reducible refine (vote_Trips.calls a0 _ _ y165 t169 _ ?side1 ?side2 A88.out).mono ?_); (case side1 => repeat (first | exact (Kd.R_reads' HO167.out).2.2 | (with_reducible refine Kd.C_alloc ?_ _) | (with_reducible refine Kd.C_drewN ?_ _) | (with_reducible refine Kd.C_drew ?_))); (case side2 => exact (Kd.R_reads' HO167.out).2.1); rintro e w167 ⟨rfl, hb⟩; have n0_ := Aside0.mk (Kd.R_below (by (with_reducible repeat (first | apply Kd.R_alloc | apply Kd.R_drewN | apply Kd.R_drew)); exact HO149.out) hb); have n1_ := Aside0.mk (Kd.R_below (by (with_reducible repeat (first | apply Kd.R_alloc | apply Kd.R_drewN | apply Kd.R_drew)); exact HO167.out) hb); have n2_ := Aside0.mk (below_step (by repeat (first | (with_reducible first | exact HB.out | apply below_alloc | apply pw_below_drewN | apply below_drew1) | exact HB.out)) hb); clear HO149; clear HO167; clear HB; have HO149 := n0_; have HO167 := n1_; have HB := n2_; clear n0_ n1_ n2_; (try clear hb); (try clear hb2); (try clear hgn); (try clear hk); (try clear hi)))
                                                go_ret
                                                exact ⟨by first | rfl | (simp [errW_none, errW_some] <;> rfl) | (simp only [← hji75, ← hji82]; first | rfl | (simp [errW_none, errW_some] <;> rfl)) | (simp [*, errW_none, errW_some] <;> rfl), by repeat (first | (with_reducible first | exact HB.out | apply below_alloc | apply pw_below_drewN | apply below_drew1) | exact HB.out)⟩
                                            · replace c86 := Bool.eq_false_iff.mpr c86
                                              subst c86
                                              have H1 : (some false) = some r := by rw [if_neg (show ¬ (false = true) by decide)] at H; exact H
                                              clear H
                                              have H := H1
                                              clear H1
                                              obtain rfl := Option.some.inj H
                                              try go_wp2_with (first | ((with_reducible refine gate_dst (N := 80) rfl ?_); (try (refine gate_guard (by rfl) ?_; dsimp only)); refine Kd.R_lit k29 _ 29 ?hg (N := 80) ?hd (xs := ([] : List (S29))) (inner := []) (ok := fun _ => True) (okp := fun _ => True) ?hr ?hp (fun _ hk => hk) trivial (Below.refl _ _) (Nat.le_refl _) (by simp) ?_; (case hd => rfl); (case hg => rfl); (case hr => first | (go_simp; done) | (go_simp; rfl)); (case hp => exact (Reps.none _ _)); intro v145 w168 ho169 hb hg_ hnew_; clear hg_ hnew_; (first | rw [← Ny144.out] at ho169 | (simp only [Int.reduceToNat] at ho169; rw [← Ny144.out] at ho169)); have n0_ := Aside0.mk (Kd.R_lower ho169 (below_size (by repeat (first | (with_reducible first | exact HB.out | apply below_alloc | apply pw_below_drewN | apply below_drew1) | exact HB.out)))); have n1_ := Aside0.mk (below_step (by repeat (first | (with_reducible first | exact HB.out | apply below_alloc | apply pw_below_drewN | apply below_drew1) | exact HB.out)) hb); clear HB; have HO146 := n0_; have HB := n1_; clear n0_ n1_; clear hb ho169) | ((with_reducible refine gate_builtin (b := .append) (xs := #[.tmp 80, .tmp 81]) rfl ?_); (try (refine gate_guard (by rfl) ?_; dsimp only)); at_builtin; refine Kd.R_append_rows k29 (w0 := w) w.heap.size rfl (.tmp 80) (.tmp 81) 22 29 (.agg #[(.bool false), (.bool false), (.bool false)]) 3 rfl Try.underlying22 info29 rfl (by decide) (by omega) v145 y144 l1 _ _ _ (fun _ => True) (fun _ => False) rfl rfl ?aO ?aR (fun _ _ h => h) (fun _ h => h.elim) ?aF ?aB ?aS ?aL ?_; (case aR => repeat (first | exact (Kd.C_below HR1.out HB.out) | (with_reducible refine Kd.C_alloc ?_ _) | (with_reducible refine Kd.C_drewN ?_ _) | (with_reducible refine Kd.C_drew ?_))); (case aB => exact (by repeat (first | (with_reducible first | exact HB.out | apply below_alloc | apply pw_below_drewN | apply below_drew1) | exact HB.out))); (case aF => exact (fun _ _ => trivial)); (case aO => exact (by (with_reducible repeat (first | apply Kd.R_alloc | apply Kd.R_drewN | apply Kd.R_drew)); exact HO146.out)); (case aS => exact (below_size (by repeat (first | (with_reducible first | exact HB.out | apply below_alloc | apply pw_below_drewN | apply below_drew1) | exact HB.out)))); (case aL => have := LMc74.out; omega); intro v148 w170 ho hb hg hat; rw [← Ny147.out] at ho; have n0_ := Aside0.mk (hb); have n1_ := Aside0.mk (ho); clear HB; clear HO146; have HB := n0_; have HO149 := n1_; clear n0_ n1_; clear ho hb hg hat; have p78 : 0 ≤ ((ji75) : Int) := of_decide_eq_true (by first | (with_reducible assumption) | assumption); have q78 : ((ji75) : Int) < ((y147.length : Int) : Int) := of_decide_eq_true (by first | (with_reducible assumption) | assumption); obtain ⟨go78, co78, eo78, gb78, gl78, cl78, HG78⟩ := Kd.R_form HO149.out (by omega); (first | cases eo78 | (injection eo78 with ea_ en_ ec_; (first | subst ea_ | (injection ea_ with ea_; subst ea_)); subst ec_; clear en_)); have GB78 := Aside0.mk gb78; have GG78 := Aside0.mk HG78; clear gb78 gl78 HG78; obtain ⟨ce78, hcl78, hM78, hcc78, hfr78⟩ := Kd.R_elem HO149.out z29 ((ji75) : Int) p78 q78; obtain rfl := k29_openM hM78; have hx78_0 : w170.cell? ⟨go78, ((ji75) : Int).toNat * 3, none⟩ = some (.bool ((rd_T29 y147 (ji75)).f0)) := hcc78 0 _ rfl; have hx78_1 : w170.cell? ⟨go78, ((ji75) : Int).toNat * 3 + 1, none⟩ = some (.bool ((rd_T29 y147 (ji75)).f1)) := hcc78 1 _ rfl; have hx78_2 : w170.cell? ⟨go78, ((ji75) : Int).toNat * 3 + 2, none⟩ = some (.bool ((rd_T29 y147 (ji75)).f2)) := hcc78 2 _ rfl; have hf78_0 : w170.frozen? ⟨go78, ((ji75) : Int).toNat * 3, none⟩ = false := hfr78 0; have hf78_1 : w170.frozen? ⟨go78, ((ji75) : Int).toNat * 3 + 1, none⟩ = false := hfr78 1; have hf78_2 : w170.frozen? ⟨go78, ((ji75) : Int).toNat * 3 + 2, none⟩ = false := hfr78 2; clear hcl78 hcc78 hfr78 hM78; replace p78 := eq_true p78; replace q78 := eq_true q78; have HX171 := Aside0.mk (show Kd.R k29 29 w170 w.heap.size (fun _ => True) (.slice (some ⟨go78, 0, none⟩) y147.length co78) y147 from (by (with_reducible repeat (first | apply Kd.R_alloc | apply Kd.R_drewN | apply Kd.R_drew)); exact HO149.out)); obtain ⟨ce171, hcl171, hM171, hcc171, hfr171⟩ := Kd.R_elem HX171.out z29 ((ji75) : Int) (of_decide_eq_true (by first | (with_reducible assumption) | assumption)) (by have h_ : ((ji75) : Int) < ((y147.length : Int) : Int) := of_decide_eq_true (by first | (with_reducible assumption) | assumption); first | exact h_ | (have e_ := (Kd.R_reads' HO149.out).1; omega) | simpa using h_); obtain rfl := k29_openM hM171; have HP171 := Kd.R_seg HX171.out ((ji75) : Int) (of_decide_eq_true (by first | (with_reducible assumption) | assumption)) (by have h_ : ((ji75) : Int) < ((y147.length : Int) : Int) := of_decide_eq_true (by first | (with_reducible assumption) | assumption); first | exact h_ | (have e_ := (Kd.R_reads' HO149.out).1; omega) | simpa using h_) (seg := [.bool false, .bool false, .bool true]) (j := 0) hcl171 hcc171 (show 3 ≤ 3 from by decide) (x' := (⟨false, false, true⟩ : S29)) (k29_mkM _ _ _ (⟨false, false, true⟩ : S29) ) (fun _ hk => hk); have hx171_0 := hcc171 0 _ rfl; (try simp only [show (k29).sz = 3 from rfl, Nat.mul_one, Nat.add_zero] at hx171_0); have hf171_0 := hfr171 0; (try simp only [show (k29).sz = 3 from rfl, Nat.mul_one, Nat.add_zero] at hf171_0); have hx171_1 := hcc171 1 _ rfl; (try simp only [show (k29).sz = 3 from rfl, Nat.mul_one, Nat.add_zero] at hx171_1); have hf171_1 := hfr171 1; (try simp only [show (k29).sz = 3 from rfl, Nat.mul_one, Nat.add_zero] at hf171_1); have hx171_2 := hcc171 2 _ rfl; (try simp only [show (k29).sz = 3 from rfl, Nat.mul_one, Nat.add_zero] at hx171_2); have hf171_2 := hfr171 2; (try simp only [show (k29).sz = 3 from rfl, Nat.mul_one, Nat.add_zero] at hf171_2); clear hcl171 hcc171 hfr171 hM171) | ((with_reducible refine gate_store (t := 29) (p := 86) rfl ?_); refine store_event (t := 29) (p := 86) (v := ?vo_w172) (w1 := (((w170.setCell ⟨go78, ((ji75) : Int).toNat * 3, none⟩ (.bool false)).setCell ⟨go78, ((ji75) : Int).toNat * 3 + 1, none⟩ (.bool false)).setCell ⟨go78, ((ji75) : Int).toNat * 3 + 2, none⟩ (.bool true))) ?hg ?ho ?hn ?hr ?_; (case ho => rfl); (case hg => rfl); (case hn => rfl); (case hr => first | (go_simp; done) | (go_simp; rfl)); intro w172 hw; have hg : w170.grownBy w172 (some go78) := (by rw [hw]; exact HP171.2); have hp_ : Kd.R k29 29 w172 w.heap.size (fun _ => True) (.slice (some ⟨go78, 0, none⟩) y147.length co78) y150 := (by rw [hw, Ny150.out]; exact HP171.1); clear HP171; have n0_ := Aside0.mk (hp_); have n1_ := Aside0.mk ((by rw [hw]; exact below_set (below_set (below_set (HB.out) GB78.out) GB78.out) GB78.out : Below w.heap.size w w172)); clear HO149; clear HB; have HO149 := n0_; have HB := n1_; clear n0_ n1_; clear hg hw hp_))
                                              have n0_ := Aside0.mk (Kd.R_drew HO149.out)
                                              have n1_ := Aside0.mk (below_drew1 HB.out)
                                              clear HO149
                                              clear HB
                                              have HO149 := n0_
                                              have HB := n1_
                                              clear n0_ n1_
                                              have q174 : ((ji75) : Int) ≤ ((l1.length : Int) : Int) := of_decide_eq_true (by first | (with_reducible assumption) | assumption)
                                              obtain ⟨i0174, hi0174, _, hsz174, _⟩ := info_parts info29
                                              have hroom174 : l1.length ≤ c1 := HC1.out
                                              have hC174 : Kd.C k29 _ A1 l1.length l1 := HR1.out
                                              have hcut174 := cut_to (P := Try.prog) 22 29 .i64 Try.underlying22 hi0174 A1 l1.length c1 (ji75) (of_decide_eq_true (by first | (with_reducible assumption) | assumption)) q174 hroom174
                                              have hr174 := Kd.C_take (m := ((ji75) : Int).toNat) hC174 (by omega)
                                              have hy174 : y154.length = ((ji75) : Int).toNat := (by rw [Ny154.out, List.length_take]; omega)
                                              rw [← Ny154.out] at hr174
                                              rw [← hy174] at hcut174
                                              have HR157 := Aside0.mk hr174
                                              have HC157 := Aside0.mk (show y154.length ≤ c1 from by omega)
                                              clear hr174 hC174 hroom174 hi0174 hsz174
                                              have KY174 := Aside0.mk hy174
                                              clear hy174
                                              replace q174 := eq_true q174
                                              have q175 : ((ji82) : Int) ≤ ((l1.length : Int) : Int) := of_decide_eq_true (by first | (with_reducible assumption) | assumption)
                                              obtain ⟨i0175, hi0175, _, hsz175, _⟩ := info_parts info29
                                              have hroom175 : l1.length ≤ c1 := HC1.out
                                              have hC175 : Kd.C k29 _ A1 l1.length l1 := HR1.out
                                              have q0175 : (0 : Int) ≤ ((ji82) : Int) := of_decide_eq_true (by first | (with_reducible assumption) | assumption)
                                              have hcut175 := cut_from (P := Try.prog) 22 29 .i64 Try.underlying22 hi0175 3 hsz175 A1 l1.length c1 (ji82) q0175 q175
                                              have hr175 := Kd.C_drop (m := ((ji82) : Int).toNat) (c := c1) hC175 (by omega) hroom175
                                              obtain ⟨A175, hA175⟩ : ∃ Az_, Az_ = (if c1 = ((ji82) : Int).toNat then A1 else (A1 : Option Addr).map (·.add (((ji82) : Int).toNat * 3))) := ⟨_, rfl⟩
                                              obtain ⟨c175, hc175⟩ : ∃ cz_, cz_ = c1 - ((ji82) : Int).toNat := ⟨_, rfl⟩
                                              have hy175 : y161.length = l1.length - ((ji82) : Int).toNat := (by rw [Ny161.out, List.length_drop] <;> omega)
                                              rw [show (l1).drop ((ji82) : Int).toNat = y161 from Ny161.out.symm] at hr175
                                              replace hr175 : Kd.C k29 _ A175 y161.length y161 := (by rw [hA175]; exact hr175)
                                              rw [← hy175, ← hA175, ← hc175] at hcut175
                                              have HR164 := Aside0.mk hr175
                                              have HC164 := Aside0.mk (show y161.length ≤ c175 from by rw [hy175, hc175]; exact Nat.sub_le_sub_right hroom175 _)
                                              clear hr175 hC175 hroom175 hi0175 hsz175 hc175
                                              have KY175 := Aside0.mk hy175
                                              have KA175 := Aside0.mk hA175
                                              clear hy175 hA175
                                              replace q175 := eq_true q175
                                              refine start_ (n := 11) (S := fun w' => True) (ds := []) #[false, false, false, false, false, false, false, false, false, false, false] (by kernel_rfl) rfl rfl trivial (fun hHeld => ?_); refine with_tabW watchkeeperlaw13_VoteMore.tab15 watchkeeperlaw13_VoteMore.bits15 (fun HT_ HW_ => ?_)
                                              generalize w172.drew = w173 at HO149 HB HR157 HR164 hHeld ⊢
                                              refine pure_ (i := 1) (N := some 88) (v := ?_) (a' := ?_) #[false, true, false, false, false, false, false, false, false, false, false] rfl rfl (any_of HT_.out (by kernel_rfl)) (fun _ _ _ h => h) (Or.inl ⟨by rfl, ?_⟩) ?_ ?_
                                              rotate_left
                                              · intro w'
                                                go_simp
                                                with_reducible rfl
                                              rotate_left
                                              · simp only [Act.put, List.setIfInBounds_toArray, List.set_cons_zero, List.set_cons_succ, i64_w, i32_w]
                                                rfl
                                              refine pure_ (i := 2) (N := some 89) (v := ?_) (a' := ?_) #[false, true, true, false, false, false, false, false, false, false, false] rfl rfl (any_of HT_.out (by kernel_rfl)) (fun _ _ _ h => h) (Or.inl ⟨by rfl, ?_⟩) ?_ ?_
                                              rotate_left
                                              · intro w'
                                                go_simp
                                                with_reducible rfl
                                              rotate_left
                                              · simp only [Act.put, List.setIfInBounds_toArray, List.set_cons_zero, List.set_cons_succ, i64_w, i32_w]
                                                rfl
                                              refine pure_ (i := 3) (N := some 90) (v := ?_) (a' := ?_) #[false, true, true, true, false, false, false, false, false, false, false] rfl rfl (any_of HT_.out (by kernel_rfl)) (fun _ _ _ h => h) (Or.inl ⟨by rfl, ?_⟩) ?_ ?_
                                              rotate_left
                                              · intro w'
                                                go_simp
                                                with_reducible rfl
                                              rotate_left
                                              · simp only [Act.put, List.setIfInBounds_toArray, List.set_cons_zero, List.set_cons_succ, i64_w, i32_w]
                                                rfl
                                              refine pure_ (i := 5) (N := some 92) (v := ?_) (a' := ?_) #[false, true, true, true, false, true, false, false, false, false, false] rfl rfl (any_of HT_.out (by kernel_rfl)) (fun _ _ _ h => h) (Or.inl ⟨by rfl, ?_⟩) ?_ ?_
                                              rotate_left
                                              · intro w'
                                                go_simp
                                                with_reducible rfl
                                              rotate_left
                                              · simp only [Act.put, List.setIfInBounds_toArray, List.set_cons_zero, List.set_cons_succ, i64_w, i32_w]
                                                rfl
                                              refine pure_ (i := 6) (N := some 93) (v := ?_) (a' := ?_) #[false, true, true, true, false, true, true, false, false, false, false] rfl rfl (any_of HT_.out (by kernel_rfl)) (fun _ _ _ h => h) (Or.inl ⟨by rfl, ?_⟩) ?_ ?_
                                              rotate_left
                                              · intro w'
                                                go_simp
                                                with_reducible rfl
                                              rotate_left
                                              · simp only [Act.put, List.setIfInBounds_toArray, List.set_cons_zero, List.set_cons_succ, i64_w, i32_w]
                                                rfl
                                              refine pure_ (i := 7) (N := some 94) (v := ?_) (a' := ?_) #[false, true, true, true, false, true, true, true, false, false, false] rfl rfl (any_of HT_.out (by kernel_rfl)) (fun _ _ _ h => h) (Or.inl ⟨by rfl, ?_⟩) ?_ ?_
                                              rotate_left
                                              · intro w'
                                                go_simp
                                                with_reducible rfl
                                              rotate_left
                                              · simp only [Act.put, List.setIfInBounds_toArray, List.set_cons_zero, List.set_cons_succ, i64_w, i32_w]
                                                rfl
                                              refine pure_ (i := 8) (N := some 95) (v := ?_) (a' := ?_) #[false, true, true, true, false, true, true, true, true, false, false] rfl rfl (any_of HT_.out (by kernel_rfl)) (fun _ _ _ h => h) (Or.inl ⟨by rfl, ?_⟩) ?_ ?_
                                              rotate_left
                                              · intro w'
                                                go_simp
                                                with_reducible rfl
                                              rotate_left
                                              · simp only [Act.put, List.setIfInBounds_toArray, List.set_cons_zero, List.set_cons_succ, i64_w, i32_w]
                                                rfl
                                              refine one_ (i := 0) (N := some 87) #[true, true, true, true, false, true, true, true, true, false, false] rfl rfl (one_of HT_.out (by kernel_rfl)) (by decide) (fun K hK => ?_)
                                              refine Kd.R_lit_step k29 _ 29 ?hg (N := 87) ?hd (xs := ([] : List (S29))) (inner := []) (ok := fun _ => True) (okp := fun _ => True) ?hr ?hp (fun _ hk => hk) trivial (Below.refl _ _) (Nat.le_refl _) (by simp) ?_; (case hd => rfl); (case hg => rfl); (case hr => first | (go_simp; done) | (go_simp; rfl)); (case hp => exact (Reps.none _ _))
                                              intro v152 w176 ho177 hb hg_ hnew_
                                              clear hg_ hnew_
                                              (first | rw [← Ny151.out] at ho177 | (simp only [Int.reduceToNat] at ho177; rw [← Ny151.out] at ho177))
                                              have n0_ := Aside0.mk (Kd.R_elder' (by (with_reducible repeat (first | apply Kd.R_alloc | apply Kd.R_drewN | apply Kd.R_drew)); exact HO149.out) (Kd.R_base ho177) hb)
                                              have n1_ := Aside0.mk (Kd.R_lower (Kd.R_new' ho177 (Kd.R_lt (by (with_reducible repeat (first | apply Kd.R_alloc | apply Kd.R_drewN | apply Kd.R_drew)); exact HO149.out))) (below_size (by repeat (first | (with_reducible first | exact HB.out | apply below_alloc | apply pw_below_drewN | apply below_drew1) | exact HB.out))))
                                              have n2_ := Aside0.mk (below_step (by repeat (first | (with_reducible first | exact HB.out | apply below_alloc | apply pw_below_drewN | apply below_drew1) | exact HB.out)) hb)
                                              clear HO149
                                              clear HB
                                              have HO149 := n0_
                                              have HO153 := n1_
                                              have HB := n2_
                                              clear n0_ n1_ n2_
                                              clear hb ho177
                                              refine hK.out _ _ trivial (fun hHeld => ?_)
                                              clear hK K
                                              refine norm_ (a' := ?_) ?_ ?_
                                              rotate_left
                                              · show Act.put _ (some 87) _ = _
                                                simp only [Act.put, List.setIfInBounds_toArray, List.set_cons_zero, List.set_cons_succ, i64_w, i32_w]
                                                rfl
                                              refine one_ (i := 4) (N := some 91) #[true, true, true, true, true, true, true, true, true, false, false] rfl rfl (one_of HT_.out (by kernel_rfl)) (by decide) (fun K hK => ?_)
                                              refine Kd.R_append_rows_step k29 (w0 := w) w.heap.size (by rfl) (.tmp 87) (.tmp 90) 22 29 (.agg #[(.bool false), (.bool false), (.bool false)]) 3 rfl Try.underlying22 info29 rfl (by decide) (by omega) v152 y151 y154 _ _ _ (fun k_ => some k_ ≠ (.slice (some ⟨go78, 0, none⟩) y147.length co78 : Value).ownBlock) (fun _ => False) rfl rfl ?aO ?aR (fun _ _ h => h) (fun _ h => h.elim) ?aF ?aB ?aS ?aL ?_
                                              (case aR => repeat (first | exact (Kd.C_below HR157.out HB.out) | (with_reducible refine Kd.C_alloc ?_ _) | (with_reducible refine Kd.C_drewN ?_ _) | (with_reducible refine Kd.C_drew ?_)))
                                              (case aB => exact (by repeat (first | (with_reducible first | exact HB.out | apply below_alloc | apply pw_below_drewN | apply below_drew1) | exact HB.out)))
                                              (case aF => exact (fun k_ hk => Kd.fresh' (Kd.R_lt (by (with_reducible repeat (first | apply Kd.R_alloc | apply Kd.R_drewN | apply Kd.R_drew)); exact HO149.out)) k_ hk))
                                              (case aO => exact (by (with_reducible repeat (first | apply Kd.R_alloc | apply Kd.R_drewN | apply Kd.R_drew)); exact Kd.R_mono HO153.out (fun _ hk => hk.2)))
                                              (case aS => exact (below_size (by repeat (first | (with_reducible first | exact HB.out | apply below_alloc | apply pw_below_drewN | apply below_drew1) | exact HB.out))))
                                              (case aL => have := LMc81.out; omega)
                                              intro v159 w178 ho hb hg hat
                                              rw [← Ny158.out] at ho
                                              have n0_ := Aside0.mk (Kd.R_after (ok := (fun _ => True)) (by (with_reducible repeat (first | apply Kd.R_alloc | apply Kd.R_drewN | apply Kd.R_drew)); exact HO149.out) hg hat)
                                              have n1_ := Aside0.mk (hb)
                                              have n2_ := Aside0.mk (ho)
                                              clear HO149
                                              clear HB
                                              clear HO153
                                              have HO149 := n0_
                                              have HB := n1_
                                              have HO160 := n2_
                                              clear n0_ n1_ n2_
                                              clear ho hb hg hat
                                              refine hK.out _ _ trivial (fun hHeld => ?_)
                                              clear hK K
                                              refine norm_ (a' := ?_) ?_ ?_
                                              rotate_left
                                              · show Act.put _ (some 91) _ = _
                                                simp only [Act.put, List.setIfInBounds_toArray, List.set_cons_zero, List.set_cons_succ, i64_w, i32_w]
                                                rfl
                                              refine one_ (i := 9) (N := some 96) #[true, true, true, true, true, true, true, true, true, true, false] rfl rfl (one_of HT_.out (by kernel_rfl)) (by decide) (fun K hK => ?_)
                                              refine Kd.R_append_rows_step k29 (w0 := w) w.heap.size (by rfl) (.tmp 91) (.tmp 95) 22 29 (.agg #[(.bool false), (.bool false), (.bool false)]) 3 rfl Try.underlying22 info29 rfl (by decide) (by omega) v159 y158 y161 _ _ _ (fun k_ => some k_ ≠ (.slice (some ⟨go78, 0, none⟩) y147.length co78 : Value).ownBlock) (fun _ => False) rfl rfl ?aO ?aR (fun _ _ h => h) (fun _ h => h.elim) ?aF ?aB ?aS ?aL ?_
                                              (case aR => repeat (first | exact (Kd.C_below HR164.out HB.out) | (with_reducible refine Kd.C_alloc ?_ _) | (with_reducible refine Kd.C_drewN ?_ _) | (with_reducible refine Kd.C_drew ?_)))
                                              (case aB => exact (by repeat (first | (with_reducible first | exact HB.out | apply below_alloc | apply pw_below_drewN | apply below_drew1) | exact HB.out)))
                                              (case aF => exact (fun k_ hk => Kd.fresh' (Kd.R_lt (by (with_reducible repeat (first | apply Kd.R_alloc | apply Kd.R_drewN | apply Kd.R_drew)); exact HO149.out)) k_ hk))
                                              (case aO => exact (by (with_reducible repeat (first | apply Kd.R_alloc | apply Kd.R_drewN | apply Kd.R_drew)); exact HO160.out))
                                              (case aS => exact (below_size (by repeat (first | (with_reducible first | exact HB.out | apply below_alloc | apply pw_below_drewN | apply below_drew1) | exact HB.out))))
                                              (case aL => have := LMc85.out; omega)
                                              intro v166 w179 ho hb hg hat
                                              rw [← Ny165.out] at ho
                                              have n0_ := Aside0.mk (Kd.R_after (ok := (fun _ => True)) (by (with_reducible repeat (first | apply Kd.R_alloc | apply Kd.R_drewN | apply Kd.R_drew)); exact HO149.out) hg hat)
                                              have n1_ := Aside0.mk (hb)
                                              have n2_ := Aside0.mk (ho)
                                              clear HO149
                                              clear HB
                                              clear HO160
                                              have HO149 := n0_
                                              have HB := n1_
                                              have HO167 := n2_
                                              clear n0_ n1_ n2_
                                              clear ho hb hg hat
                                              refine hK.out _ _ trivial (fun hHeld => ?_)
                                              clear hK K
                                              refine norm_ (a' := ?_) ?_ ?_
                                              rotate_left
                                              · show Act.put _ (some 96) _ = _
                                                simp only [Act.put, List.setIfInBounds_toArray, List.set_cons_zero, List.set_cons_succ, i64_w, i32_w]
                                                rfl
                                              refine pure_ (i := 10) (N := some 13) (v := ?_) (a' := ?_) #[true, true, true, true, true, true, true, true, true, true, true] rfl rfl (any_of HT_.out (by kernel_rfl)) (fun _ _ _ h => h) (Or.inl ⟨by rfl, ?_⟩) ?_ ?_
                                              rotate_left
                                              · intro w'
                                                go_simp
                                                with_reducible rfl
                                              rotate_left
                                              · simp only [Act.put, List.setIfInBounds_toArray, List.set_cons_zero, List.set_cons_succ, i64_w, i32_w]
                                                rfl
                                              refine done_ (done_of HT_.out (by kernel_rfl)) ?_
                                              try go_wp2
                                              go_ret
                                              exact ⟨by first | rfl | (simp [errW_none, errW_some] <;> rfl) | (simp only [← hji75, ← hji82]; first | rfl | (simp [errW_none, errW_some] <;> rfl)) | (simp [*, errW_none, errW_some] <;> rfl), by repeat (first | (with_reducible first | exact HB.out | apply below_alloc | apply pw_below_drewN | apply below_drew1) | exact HB.out)⟩
                                          · rw [if_neg c85] at H
                                            exact absurd H (by simp)
                                        · rw [if_neg c84] at H
                                          exact absurd H (by simp)
                                      · rw [if_neg c83] at H
                                        exact absurd H (by simp)
                                    · rw [if_neg c81] at H
                                      exact absurd H (by simp)
                                  · rw [if_neg c80] at H
                                    exact absurd H (by simp)
                                · rw [if_neg c77] at H
                                  exact absurd H (by simp)
                              · rw [if_neg c76] at H
                                exact absurd H (by simp)
                            · rw [if_neg c74] at H
                              exact absurd H (by simp)
          · rw [if_neg c11] at H
            exact absurd H (by simp)

end Go.Proofs.Ythhgomobjcpdoaa.QA
