/- Contracts of the functions that the law reaches, and what each comes to as a plain function; laid by a program of mine over the printer. -/
import Derived.Test.YtkmmkoiibcdmeaaCV
namespace Go.Proofs.Ytkmmkoiibcdmeaa.QD
open Go.RowKit Go.Proofs.YtkmmkoiibcdmeaaW.PrintWords Go.Proofs.YtkmmkoiibcdmeaaW.PrintLast Go.Proofs.YtkmmkoiibcdmeaaW.PrintMore
attribute [local go_sem] max2_int min2_int max_two min_two max_three min_three max_four min_four   -- for this text's walks alone
set_option linter.unusedVariables false
set_option linter.unusedSimpArgs false

/-! ### watchkeeperref03_First: function 12 -/
mutual
def watchkeeperref03_First.j0 : Nat → List Int → Bool → Option (Int × Int × List Int × Int × Int)
  | 0, _, _ => none
  | k + 1, x0, x25 => if x25 = true then (some (0, 0, ([] : List Int), 0, 31)) else (if (x0.length : Int) < 6 then (some (0, 0, ([] : List Int), 0, 0)) else (if 4 < (x0.length : Int) then (if 5 < (x0.length : Int) then (if (wrap64 ((wrap64 (256 * (wrap64 (rd x0 4)))) + (wrap64 (rd x0 5)))) < 2 then (watchkeeperref03_First.j1 k x0 (wrap64 ((wrap64 (256 * (wrap64 (rd x0 4)))) + (wrap64 (rd x0 5)))) true) else (watchkeeperref03_First.j1 k x0 (wrap64 ((wrap64 (256 * (wrap64 (rd x0 4)))) + (wrap64 (rd x0 5)))) (decide ((wrap64 ((wrap64 (256 * (wrap64 (rd x0 4)))) + (wrap64 (rd x0 5)))) > 254)))) else (none)) else (none)))
def watchkeeperref03_First.j1 : Nat → List Int → Int → Bool → Option (Int × Int × List Int × Int × Int)
  | 0, _, _, _ => none
  | k + 1, x0, x5, x46 => if x46 = true then (some (0, 0, ([] : List Int), 0, 31)) else (if (x0.length : Int) < (wrap64 (6 + x5)) then (some (0, 0, ([] : List Int), 0, 0)) else (if 0 < (x0.length : Int) then (if 1 < (x0.length : Int) then (if 6 < (x0.length : Int) then ((some (([] : List Int) : List Int)).bind fun y146 => (if 7 ≤ (wrap64 (6 + x5)) then (if (wrap64 (6 + x5)) ≤ (x0.length : Int) then (if y146.length + ((x0.take ((wrap64 (6 + x5)) : Int).toNat).drop 7).length < 140737488355328 then (some (IntKind.u16.wrap ((IntKind.u16.wrap (256 * (IntKind.u16.wrap (rd x0 0)))) + (IntKind.u16.wrap (rd x0 1))), rd x0 6, (y146 ++ ((x0.take ((wrap64 (6 + x5)) : Int).toNat).drop 7)), wrap64 (6 + x5), 0)) else (none)) else (none)) else (none))) else (none)) else (none)) else (none)))
end
def watchkeeperref03_First.f (k : Nat) (l0 : List Int) : Option (Int × Int × List Int × Int × Int) := if (l0.length : Int) > 2 then (if 2 < (l0.length : Int) then (if (rd l0 2) = 0 then (if (l0.length : Int) > 3 then (if 3 < (l0.length : Int) then (watchkeeperref03_First.j0 k l0 ((rd l0 3) != 0)) else (none)) else (watchkeeperref03_First.j0 k l0 false)) else (watchkeeperref03_First.j0 k l0 true)) else (none)) else (if (l0.length : Int) > 3 then (if 3 < (l0.length : Int) then (watchkeeperref03_First.j0 k l0 ((rd l0 3) != 0)) else (none)) else (watchkeeperref03_First.j0 k l0 false))
theorem watchkeeperref03_First.mono_l : ∀ k, (∀ y0 y1, LeO (watchkeeperref03_First.j0 k y0 y1) (watchkeeperref03_First.j0 (k + 1) y0 y1)) ∧ (∀ y0 y1 y2, LeO (watchkeeperref03_First.j1 k y0 y1 y2) (watchkeeperref03_First.j1 (k + 1) y0 y1 y2))
  | 0 => ⟨fun _ _ r h => by simp [watchkeeperref03_First.j0] at h, fun _ _ _ r h => by simp [watchkeeperref03_First.j1] at h⟩
  | k + 1 => by
    obtain ⟨ih0, ih1⟩ := watchkeeperref03_First.mono_l k
    refine ⟨?_, ?_⟩
    · intro y0 y1
      unfold watchkeeperref03_First.j0
      repeat' first
      | (with_reducible exact ih0 _ _)
      | (with_reducible exact ih1 _ _ _)
      | (with_reducible exact LeO.refl _)
      | (with_reducible exact LeO.none _)
      | (with_reducible refine LeO.ite ?_ ?_)
      | (with_reducible refine LeO.bind ?_ (fun _ => ?_))
      | exact ih0 _ _
      | exact ih1 _ _ _
      | exact LeO.none _
      | refine LeO.ite ?_ ?_
      | refine LeO.bind ?_ (fun _ => ?_)
    · intro y0 y1 y2
      unfold watchkeeperref03_First.j1
      repeat' first
      | (with_reducible exact ih0 _ _)
      | (with_reducible exact ih1 _ _ _)
      | (with_reducible exact LeO.refl _)
      | (with_reducible exact LeO.none _)
      | (with_reducible refine LeO.ite ?_ ?_)
      | (with_reducible refine LeO.bind ?_ (fun _ => ?_))
      | exact ih0 _ _
      | exact ih1 _ _ _
      | exact LeO.none _
      | refine LeO.ite ?_ ?_
      | refine LeO.bind ?_ (fun _ => ?_)
theorem watchkeeperref03_First.mono : ∀ a0 k, LeO (watchkeeperref03_First.f k a0) (watchkeeperref03_First.f (k + 1) a0) := by
  intro a0 k
  obtain ⟨ih0, ih1⟩ := watchkeeperref03_First.mono_l k
  unfold watchkeeperref03_First.f
  repeat' first
      | (with_reducible exact ih0 _ _)
      | (with_reducible exact ih1 _ _ _)
      | (with_reducible exact LeO.refl _)
      | (with_reducible exact LeO.none _)
      | (with_reducible refine LeO.ite ?_ ?_)
      | (with_reducible refine LeO.bind ?_ (fun _ => ?_))
      | exact ih0 _ _
      | exact ih1 _ _ _
      | exact LeO.none _
      | refine LeO.ite ?_ ?_
      | refine LeO.bind ?_ (fun _ => ?_)
def watchkeeperref03_First.T5 : Bool × List (List Nat × List Nat) := (true, [([], []), ([0], [0]), ([1], [1]), ([2], [2]), ([3], [3]), ([], []), ([5], [5]), ([6], [6]), ([7], [7]), ([4, 8], [4, 8]), ([9, 0, 1, 2, 3, 4, 5, 6, 7, 8, 9], [9])])
def watchkeeperref03_First.B5 : List Nat := [0, 1, 3, 7, 15, 0, 32, 96, 224, 511, 1023]
theorem watchkeeperref03_First.tab5 : rtab .any (opsOf Try.f12 5) = watchkeeperref03_First.T5 := by kernel_rfl
theorem watchkeeperref03_First.bits5 : waitsOk watchkeeperref03_First.T5.2 watchkeeperref03_First.B5 = true := by kernel_rfl
def watchkeeperref03_First.T10 : Bool × List (List Nat × List Nat) := (true, [([], []), ([0], [0]), ([1], [1]), ([2], [2]), ([3], [3]), ([], []), ([5], [5]), ([6], [6]), ([7], [7]), ([4, 8], [4, 8]), ([], []), ([10], [10]), ([11], [11]), ([], []), ([], []), ([], []), ([15], [15]), ([14, 16], [14, 16]), ([13, 17], [13, 17]), ([9, 12, 18], [9, 12, 18]), ([], []), ([20], [20]), ([19, 18, 0, 1, 2, 3, 4, 5, 6, 7, 8, 9, 10, 11, 12, 13, 14, 15, 16, 17, 18, 19], [19]), ([21, 22, 0, 1, 2, 3, 4, 5, 6, 7, 8, 9, 10, 11, 12, 13, 14, 15, 16, 17, 18, 19, 20, 21, 22], [21]), ([23, 0, 1, 2, 3, 4, 5, 6, 7, 8, 9, 10, 11, 12, 13, 14, 15, 16, 17, 18, 19, 20, 21, 22, 23], [])])
def watchkeeperref03_First.B10 : List Nat := [0, 1, 3, 7, 15, 0, 32, 96, 224, 511, 0, 1024, 3072, 0, 0, 0, 32768, 114688, 253952, 524287, 0, 1048576, 1048575, 8388607, 16777215]
theorem watchkeeperref03_First.tab10 : rtab .any (opsOf Try.f12 10) = watchkeeperref03_First.T10 := by kernel_rfl
theorem watchkeeperref03_First.bits10 : waitsOk watchkeeperref03_First.T10.2 watchkeeperref03_First.B10 = true := by kernel_rfl
set_option maxHeartbeats 8000000 in
set_option maxRecDepth 100000 in
theorem watchkeeperref03_First.calls (k : Nat) (A0 : Option Addr) (c0 : Nat) (l0 : List Int) (r1 : Int) (r2 : Int) (r3 : List Int) (r4 : Int) (r5 : Int) (w : World) (hr0 : Kd.C (Kd.int .u8) w A0 l0.length l0) (hc0 : l0.length ≤ c0) (h : watchkeeperref03_First.f k l0 = some (r1, r2, r3, r4, r5)) :
    Calls Try.prog 12 #[.slice A0 l0.length c0] w fun e w' => ∃ v2_ : Value, e = .returned (.tuple #[.agg #[.int .u16 r1, .int .u8 r2, v2_], .int .i64 r4, .int .i64 r5]) ∧ Kd.R (Kd.int .u8) 5 w' w.heap.size (fun _ => True) v2_ r3 ∧ Below w.heap.size w w' := by
  have hu26 := Try.underlying26
  have HR0 := Aside0.mk hr0
  have HC0 := Aside0.mk hc0
  clear hr0 hc0
  have HB := Aside0.mk (Below.refl w.heap.size w)
  have H : (if (l0.length : Int) > 2 then (if 2 < (l0.length : Int) then (if (rd l0 2) = 0 then (if (l0.length : Int) > 3 then (if 3 < (l0.length : Int) then (watchkeeperref03_First.j0 k l0 ((rd l0 3) != 0)) else (none)) else (watchkeeperref03_First.j0 k l0 false)) else (watchkeeperref03_First.j0 k l0 true)) else (none)) else (if (l0.length : Int) > 3 then (if 3 < (l0.length : Int) then (watchkeeperref03_First.j0 k l0 ((rd l0 3) != 0)) else (none)) else (watchkeeperref03_First.j0 k l0 false))) = some (r1, r2, r3, r4, r5) := h
  clear h
  have HC2 := Aside0.mk H
  clear H
  go_enter Try.func12, Try.ntmps12
  go_upto_region 1 with (first | ((with_reducible refine gate_dst (N := 2) rfl ?_); (try (refine gate_guard (by rfl) ?_; dsimp only)); refine box_event ?hg (N := 2) ?hd (cs := #[.int .u16 0, .int .u8 0, .slice none 0 0]) (t := 26) ?hr ?_; (case hd => rfl); (case hg => rfl); (case hr => first | (go_simp; done) | (go_simp; rfl)); intro gb137 hg w3 hbox hb; have n0_ := Aside0.mk (below_step (by repeat (first | (with_reducible first | exact HB.out | apply below_alloc | apply pw_below_drewN | apply below_drew1) | exact HB.out)) hb); have n1_ := Aside0.mk (hbox); have n2_ := Aside0.mk ((by rw [hg]; exact (below_size (by repeat (first | (with_reducible first | exact HB.out | apply below_alloc | apply pw_below_drewN | apply below_drew1) | exact HB.out))) : w.heap.size ≤ gb137)); have n3_ := Aside0.mk ((by rw [hg]; exact (below_size (by repeat (first | (with_reducible first | exact HB.out | apply below_alloc | apply pw_below_drewN | apply below_drew1) | exact HB.out))) : w.heap.size ≤ gb137)); clear HB; have HB := n0_; have BK137 := n1_; have GW137 := n2_; have GE137 := n3_; clear n0_ n1_ n2_ n3_; clear hb hbox hg))
  (try simp only [Act.put, List.setIfInBounds_toArray, List.set_cons_zero, List.set_cons_succ])
  go_cut [25] (fun v25 wc => ∃ (kq : Nat) (x25_1 : Bool), v25 = .bool x25_1 ∧ Aside0 (watchkeeperref03_First.j0 kq l0 x25_1 = some (r1, r2, r3, r4, r5)) ∧ Aside0 (kq ≤ k) ∧ Aside0 (wc.heap[gb137]? = some (.cells #[.int .u16 0, .int .u8 0, (.slice none 0 0)] 26 (0, 0))) ∧ Aside0 (Below w.heap.size w wc))
  case first =>
    have H := HC2.out
    clear HC2
    by_cases c4 : (l0.length : Int) > 2
    · rw [if_pos c4] at H
      have c4b0 : decide (2 < (l0.length : Int)) = true := decide_eq_true c4
      have c4b1 : decide (2 < l0.length) = true := decide_eq_true (by omega)
      clear c4
      (first | rw [c4b0] | (simp only [i64_w, i32_w]; rw [c4b0]) | skip)
      by_cases c5 : 2 < (l0.length : Int)
      · rw [if_pos c5] at H
        have c5b0 : decide (2 < (l0.length : Int)) = true := decide_eq_true c5
        have c5b1 : decide (2 < l0.length) = true := decide_eq_true (by omega)
        clear c5
        by_cases c6 : (rd l0 2) = 0
        · rw [if_pos c6] at H
          have c6b0 : ((rd l0 2) == 0) = true := beq_iff_eq.mpr c6
          have c6b1 : ((rd l0 2) != 0) = false := bne_eq_false_iff_eq.mpr c6
          clear c6
          by_cases c7 : (l0.length : Int) > 3
          · rw [if_pos c7] at H
            have c7b0 : decide (3 < (l0.length : Int)) = true := decide_eq_true c7
            have c7b1 : decide (3 < l0.length) = true := decide_eq_true (by omega)
            clear c7
            by_cases c8 : 3 < (l0.length : Int)
            · rw [if_pos c8] at H
              have c8b0 : decide (3 < (l0.length : Int)) = true := decide_eq_true c8
              have c8b1 : decide (3 < l0.length) = true := decide_eq_true (by omega)
              clear c8
              have H' := Aside0.mk H
              clear H
              have p138 : 0 ≤ (2 : Int) := (by omega)
              have q138 : 2 < (l0.length : Int) := of_decide_eq_true (by first | (with_reducible assumption) | assumption)
              obtain ⟨ad138, e138, hx138_0⟩ := Kd.at_int HR0.out 2 p138 q138
              cases e138
              (try simp only [show (2 : Int).toNat = 2 from rfl, Nat.reduceMul, Nat.reduceEqDiff, Go.Addr.add, ↓reduceIte] at hx138_0)
              have qi138 : (2 < l0.length) = True := eq_true (by omega)
              (try rw [show ((2 : Int)).toNat = 2 from rfl] at hx138_0)
              replace hx138_0 := (HB.out.cell (World.block_lt_of_cell? w _ hx138_0)).trans hx138_0
              replace p138 := eq_true p138
              replace q138 := eq_true q138
              have p139 : 0 ≤ (3 : Int) := (by omega)
              have q139 : 3 < (l0.length : Int) := of_decide_eq_true (by first | (with_reducible assumption) | assumption)
              obtain ⟨ad139, e139, hx139_0⟩ := Kd.at_int HR0.out 3 p139 q139
              obtain rfl : ad138 = ad139 := (by injection e139)
              (try simp only [show (3 : Int).toNat = 3 from rfl, Nat.reduceMul, Nat.reduceEqDiff, Go.Addr.add, ↓reduceIte] at hx139_0)
              have qi139 : (3 < l0.length) = True := eq_true (by omega)
              (try rw [show ((3 : Int)).toNat = 3 from rfl] at hx139_0)
              replace hx139_0 := (HB.out.cell (World.block_lt_of_cell? w _ hx139_0)).trans hx139_0
              replace p139 := eq_true p139
              replace q139 := eq_true q139
              go_wp2
              go_meet
              case rel => exact ⟨_, (((rd l0 3) != 0)), (by first | rfl | (simp; done) | (simp [*]; done)), H', ⟨by first | omega | exact Nat.le_refl _⟩, ⟨by (with_reducible repeat (first | refine blk_drewN ?_ _ | refine blk_drew ?_ | refine blk_alloc ?_ _)); exact BK137.out⟩, ⟨by repeat (first | (with_reducible first | exact HB.out | apply below_alloc | apply pw_below_drewN | apply below_drew1 | refine below_set ?_ GE137.out) | exact HB.out)⟩⟩
            · rw [if_neg c8] at H
              exact absurd H (by simp)
          · rw [if_neg c7] at H
            have c7b0 : decide (3 < (l0.length : Int)) = false := decide_eq_false c7
            have c7b1 : decide (3 < l0.length) = false := decide_eq_false (by omega)
            clear c7
            have H' := Aside0.mk H
            clear H
            have p138 : 0 ≤ (2 : Int) := (by omega)
            have q138 : 2 < (l0.length : Int) := of_decide_eq_true (by first | (with_reducible assumption) | assumption)
            obtain ⟨ad138, e138, hx138_0⟩ := Kd.at_int HR0.out 2 p138 q138
            cases e138
            (try simp only [show (2 : Int).toNat = 2 from rfl, Nat.reduceMul, Nat.reduceEqDiff, Go.Addr.add, ↓reduceIte] at hx138_0)
            have qi138 : (2 < l0.length) = True := eq_true (by omega)
            (try rw [show ((2 : Int)).toNat = 2 from rfl] at hx138_0)
            replace hx138_0 := (HB.out.cell (World.block_lt_of_cell? w _ hx138_0)).trans hx138_0
            replace p138 := eq_true p138
            replace q138 := eq_true q138
            go_wp2
            go_meet
            case rel => exact ⟨_, (false), (by first | rfl | (simp; done) | (simp [*]; done)), H', ⟨by first | omega | exact Nat.le_refl _⟩, ⟨by (with_reducible repeat (first | refine blk_drewN ?_ _ | refine blk_drew ?_ | refine blk_alloc ?_ _)); exact BK137.out⟩, ⟨by repeat (first | (with_reducible first | exact HB.out | apply below_alloc | apply pw_below_drewN | apply below_drew1 | refine below_set ?_ GE137.out) | exact HB.out)⟩⟩
        · rw [if_neg c6] at H
          have c6b0 : ((rd l0 2) == 0) = false := beq_eq_false_iff_ne.mpr c6
          have c6b1 : ((rd l0 2) != 0) = true := bne_iff_ne.mpr c6
          have H' := Aside0.mk H
          clear H
          have p138 : 0 ≤ (2 : Int) := (by omega)
          have q138 : 2 < (l0.length : Int) := of_decide_eq_true (by first | (with_reducible assumption) | assumption)
          obtain ⟨ad138, e138, hx138_0⟩ := Kd.at_int HR0.out 2 p138 q138
          cases e138
          (try simp only [show (2 : Int).toNat = 2 from rfl, Nat.reduceMul, Nat.reduceEqDiff, Go.Addr.add, ↓reduceIte] at hx138_0)
          have qi138 : (2 < l0.length) = True := eq_true (by omega)
          (try rw [show ((2 : Int)).toNat = 2 from rfl] at hx138_0)
          replace hx138_0 := (HB.out.cell (World.block_lt_of_cell? w _ hx138_0)).trans hx138_0
          replace p138 := eq_true p138
          replace q138 := eq_true q138
          go_wp2
          go_meet
          case rel => exact ⟨_, (true), (by first | rfl | (simp; done) | (simp [*]; done)), H', ⟨by first | omega | exact Nat.le_refl _⟩, ⟨by (with_reducible repeat (first | refine blk_drewN ?_ _ | refine blk_drew ?_ | refine blk_alloc ?_ _)); exact BK137.out⟩, ⟨by repeat (first | (with_reducible first | exact HB.out | apply below_alloc | apply pw_below_drewN | apply below_drew1 | refine below_set ?_ GE137.out) | exact HB.out)⟩⟩
      · rw [if_neg c5] at H
        exact absurd H (by simp)
    · rw [if_neg c4] at H
      have c4b0 : decide (2 < (l0.length : Int)) = false := decide_eq_false c4
      have c4b1 : decide (2 < l0.length) = false := decide_eq_false (by omega)
      clear c4
      (first | rw [c4b0] | (simp only [i64_w, i32_w]; rw [c4b0]) | skip)
      by_cases c9 : (l0.length : Int) > 3
      · rw [if_pos c9] at H
        have c9b0 : decide (3 < (l0.length : Int)) = true := decide_eq_true c9
        have c9b1 : decide (3 < l0.length) = true := decide_eq_true (by omega)
        clear c9
        by_cases c10 : 3 < (l0.length : Int)
        · rw [if_pos c10] at H
          have c10b0 : decide (3 < (l0.length : Int)) = true := decide_eq_true c10
          have c10b1 : decide (3 < l0.length) = true := decide_eq_true (by omega)
          clear c10
          have H' := Aside0.mk H
          clear H
          have p140 : 0 ≤ (3 : Int) := (by omega)
          have q140 : 3 < (l0.length : Int) := of_decide_eq_true (by first | (with_reducible assumption) | assumption)
          obtain ⟨ad140, e140, hx140_0⟩ := Kd.at_int HR0.out 3 p140 q140
          cases e140
          (try simp only [show (3 : Int).toNat = 3 from rfl, Nat.reduceMul, Nat.reduceEqDiff, Go.Addr.add, ↓reduceIte] at hx140_0)
          have qi140 : (3 < l0.length) = True := eq_true (by omega)
          (try rw [show ((3 : Int)).toNat = 3 from rfl] at hx140_0)
          replace hx140_0 := (HB.out.cell (World.block_lt_of_cell? w _ hx140_0)).trans hx140_0
          replace p140 := eq_true p140
          replace q140 := eq_true q140
          go_wp2
          go_meet
          case rel => exact ⟨_, (((rd l0 3) != 0)), (by first | rfl | (simp; done) | (simp [*]; done)), H', ⟨by first | omega | exact Nat.le_refl _⟩, ⟨by (with_reducible repeat (first | refine blk_drewN ?_ _ | refine blk_drew ?_ | refine blk_alloc ?_ _)); exact BK137.out⟩, ⟨by repeat (first | (with_reducible first | exact HB.out | apply below_alloc | apply pw_below_drewN | apply below_drew1 | refine below_set ?_ GE137.out) | exact HB.out)⟩⟩
        · rw [if_neg c10] at H
          exact absurd H (by simp)
      · rw [if_neg c9] at H
        have c9b0 : decide (3 < (l0.length : Int)) = false := decide_eq_false c9
        have c9b1 : decide (3 < l0.length) = false := decide_eq_false (by omega)
        clear c9
        have H' := Aside0.mk H
        clear H
        go_wp2
        go_meet
        case rel => exact ⟨_, (false), (by first | rfl | (simp; done) | (simp [*]; done)), H', ⟨by first | omega | exact Nat.le_refl _⟩, ⟨by (with_reducible repeat (first | refine blk_drewN ?_ _ | refine blk_drew ?_ | refine blk_alloc ?_ _)); exact BK137.out⟩, ⟨by repeat (first | (with_reducible first | exact HB.out | apply below_alloc | apply pw_below_drewN | apply below_drew1 | refine below_set ?_ GE137.out) | exact HB.out)⟩⟩
  case rest =>
    clear HC2
    try clear c1
    try clear p1
    try clear q1
    try clear hx1
    try clear qi1
    try clear p2
    try clear c4
    try clear c4b0
    try clear c4b1
    try clear c5
    try clear c5b0
    try clear c5b1
    try clear c6
    try clear c6b0
    try clear c6b1
    try clear c7
    try clear c7b0
    try clear c7b1
    try clear c8
    try clear c8b0
    try clear c8b1
    try clear c9
    try clear c9b0
    try clear c9b1
    try clear c10
    try clear c10b0
    try clear c10b1
    try clear hx138_0
    try clear hx139_0
    try clear hx140_0
    try clear p138
    try clear p139
    try clear p140
    try clear q138
    try clear q139
    try clear q140
    obtain ⟨kq, x25_1, rfl, HA, HJ1, BK137, HB⟩ := hcut
    cases kq with
    | zero => exact absurd HA.out (by simp [watchkeeperref03_First.j0])
    | succ kj1 =>
      have H := HA.out
      clear HA
      simp only [watchkeeperref03_First.j0] at H
      by_cases c11 : x25_1 = true
      · subst c11
        have H1 : (some (0, 0, ([] : List Int), 0, 31)) = some (r1, r2, r3, r4, r5) := by rw [if_pos rfl] at H; exact H
        clear H
        have H := H1
        clear H1
        simp only [Option.some.injEq, Prod.mk.injEq] at H
        obtain ⟨rfl, rfl, rfl, rfl, rfl⟩ := H
        have hcz12_0 : wc.cell? ⟨gb137, 0, none⟩ = some (.int .u16 0) := (blk_cell BK137.out 0).trans rfl
        have hcz12_1 : wc.cell? ⟨gb137, 1, none⟩ = some (.int .u8 0) := (blk_cell BK137.out 1).trans rfl
        have hcz12_2 : wc.cell? ⟨gb137, 2, none⟩ = some (.slice none 0 0) := (blk_cell BK137.out 2).trans rfl
        have hfz12_0 := blk_frozen BK137.out 0
        have hfz12_1 := blk_frozen BK137.out 1
        have hfz12_2 := blk_frozen BK137.out 2
        go_wp2
        refine bodyPost_ret (results_ctt rfl _ _ gb137 26 #[.int .u16 0, .int .u8 0, .slice none 0 0] (0, 0) _ rfl (by (with_reducible repeat (first | refine blk_drewN ?_ _ | refine blk_drew ?_ | refine blk_alloc ?_ _)); refine blk_put (cs := #[.int .u16 0, .int .u8 0, .slice none 0 0]) ?_ 2 _ rfl; (with_reducible repeat (first | refine blk_drewN ?_ _ | refine blk_drew ?_ | refine blk_alloc ?_ _)); refine blk_put (cs := #[.int .u16 0, .int .u8 0, .slice none 0 0]) ?_ 1 _ rfl; (with_reducible repeat (first | refine blk_drewN ?_ _ | refine blk_drew ?_ | refine blk_alloc ?_ _)); refine blk_put (cs := #[.int .u16 0, .int .u8 0, .slice none 0 0]) ?_ 0 _ rfl; (with_reducible repeat (first | refine blk_drewN ?_ _ | refine blk_drew ?_ | refine blk_alloc ?_ _)); exact BK137.out) Try.underlying26 rfl (by kernel_rfl)) rfl ?_
        exact ⟨_, by first | rfl | (simp [errW_none, errW_some] <;> rfl) | (simp [*, errW_none, errW_some] <;> rfl), by first | exact Kd.R_nil _ _ _ _ _ | exact Kd.N_nil _ _ _ _ _ | exact Kd.V_nil _ _ _ _ _ | exact Kd.Q_nil _ _ _ _ _ | exact Kd.S_nil _ _ _ _ _, by repeat (first | (with_reducible first | exact HB.out | apply below_alloc | apply pw_below_drewN | apply below_drew1 | refine below_set ?_ GE137.out) | exact HB.out)⟩
      · replace c11 := Bool.eq_false_iff.mpr c11
        subst c11
        have H1 : (if (l0.length : Int) < 6 then (some (0, 0, ([] : List Int), 0, 0)) else (if 4 < (l0.length : Int) then (if 5 < (l0.length : Int) then (if (wrap64 ((wrap64 (256 * (wrap64 (rd l0 4)))) + (wrap64 (rd l0 5)))) < 2 then (watchkeeperref03_First.j1 kj1 l0 (wrap64 ((wrap64 (256 * (wrap64 (rd l0 4)))) + (wrap64 (rd l0 5)))) true) else (watchkeeperref03_First.j1 kj1 l0 (wrap64 ((wrap64 (256 * (wrap64 (rd l0 4)))) + (wrap64 (rd l0 5)))) (decide ((wrap64 ((wrap64 (256 * (wrap64 (rd l0 4)))) + (wrap64 (rd l0 5)))) > 254)))) else (none)) else (none))) = some (r1, r2, r3, r4, r5) := by rw [if_neg (show ¬ (false = true) by decide)] at H; exact H
        clear H
        have H := H1
        clear H1
        by_cases c13 : (l0.length : Int) < 6
        · rw [if_pos c13] at H
          have c13b0 : decide ((l0.length : Int) < 6) = true := decide_eq_true c13
          have c13b1 : decide (l0.length < 6) = true := decide_eq_true (by omega)
          clear c13
          simp only [Option.some.injEq, Prod.mk.injEq] at H
          obtain ⟨rfl, rfl, rfl, rfl, rfl⟩ := H
          have hcz14_0 : wc.cell? ⟨gb137, 0, none⟩ = some (.int .u16 0) := (blk_cell BK137.out 0).trans rfl
          have hcz14_1 : wc.cell? ⟨gb137, 1, none⟩ = some (.int .u8 0) := (blk_cell BK137.out 1).trans rfl
          have hcz14_2 : wc.cell? ⟨gb137, 2, none⟩ = some (.slice none 0 0) := (blk_cell BK137.out 2).trans rfl
          have hfz14_0 := blk_frozen BK137.out 0
          have hfz14_1 := blk_frozen BK137.out 1
          have hfz14_2 := blk_frozen BK137.out 2
          go_wp2
          refine bodyPost_ret (results_ctt rfl _ _ gb137 26 #[.int .u16 0, .int .u8 0, .slice none 0 0] (0, 0) _ rfl (by (with_reducible repeat (first | refine blk_drewN ?_ _ | refine blk_drew ?_ | refine blk_alloc ?_ _)); refine blk_put (cs := #[.int .u16 0, .int .u8 0, .slice none 0 0]) ?_ 2 _ rfl; (with_reducible repeat (first | refine blk_drewN ?_ _ | refine blk_drew ?_ | refine blk_alloc ?_ _)); refine blk_put (cs := #[.int .u16 0, .int .u8 0, .slice none 0 0]) ?_ 1 _ rfl; (with_reducible repeat (first | refine blk_drewN ?_ _ | refine blk_drew ?_ | refine blk_alloc ?_ _)); refine blk_put (cs := #[.int .u16 0, .int .u8 0, .slice none 0 0]) ?_ 0 _ rfl; (with_reducible repeat (first | refine blk_drewN ?_ _ | refine blk_drew ?_ | refine blk_alloc ?_ _)); exact BK137.out) Try.underlying26 rfl (by kernel_rfl)) rfl ?_
          exact ⟨_, by first | rfl | (simp [errW_none, errW_some] <;> rfl) | (simp [*, errW_none, errW_some] <;> rfl), by first | exact Kd.R_nil _ _ _ _ _ | exact Kd.N_nil _ _ _ _ _ | exact Kd.V_nil _ _ _ _ _ | exact Kd.Q_nil _ _ _ _ _ | exact Kd.S_nil _ _ _ _ _, by repeat (first | (with_reducible first | exact HB.out | apply below_alloc | apply pw_below_drewN | apply below_drew1 | refine below_set ?_ GE137.out) | exact HB.out)⟩
        · rw [if_neg c13] at H
          have c13b0 : decide ((l0.length : Int) < 6) = false := decide_eq_false c13
          have c13b1 : decide (l0.length < 6) = false := decide_eq_false (by omega)
          clear c13
          by_cases c15 : 4 < (l0.length : Int)
          · rw [if_pos c15] at H
            have c15b0 : decide (4 < (l0.length : Int)) = true := decide_eq_true c15
            have c15b1 : decide (4 < l0.length) = true := decide_eq_true (by omega)
            clear c15
            by_cases c16 : 5 < (l0.length : Int)
            · rw [if_pos c16] at H
              have c16b0 : decide (5 < (l0.length : Int)) = true := decide_eq_true c16
              have c16b1 : decide (5 < l0.length) = true := decide_eq_true (by omega)
              clear c16
              have HC17 := Aside0.mk H
              clear H
              try go_wp2
              have n0_ := Aside0.mk (blk_drew BK137.out)
              have n1_ := Aside0.mk (below_drew1 HB.out)
              clear BK137
              clear HB
              have BK137 := n0_
              have HB := n1_
              clear n0_ n1_
              have p141 : 0 ≤ (4 : Int) := (by omega)
              have q141 : 4 < (l0.length : Int) := of_decide_eq_true (by first | (with_reducible assumption) | assumption)
              obtain ⟨ad141, e141, hx141_0⟩ := Kd.at_int HR0.out 4 p141 q141
              have hw141_0 := hx141_0
              (try rw [show ((4 : Int)).toNat = 4 from rfl] at hw141_0)
              (try rw [show 4 * 1 = 4 from rfl] at hw141_0)
              (try simp only [Nat.reduceMul, Nat.reduceEqDiff, Go.Addr.add, ↓reduceIte] at hw141_0)
              cases e141
              (try simp only [show (4 : Int).toNat = 4 from rfl, Nat.reduceMul, Nat.reduceEqDiff, Go.Addr.add, ↓reduceIte] at hx141_0)
              have qi141 : (4 < l0.length) = True := eq_true (by omega)
              (try rw [show ((4 : Int)).toNat = 4 from rfl] at hx141_0)
              replace hx141_0 := (HB.out.cell (World.block_lt_of_cell? w _ hx141_0)).trans hx141_0
              replace p141 := eq_true p141
              replace q141 := eq_true q141
              have p142 : 0 ≤ (5 : Int) := (by omega)
              have q142 : 5 < (l0.length : Int) := of_decide_eq_true (by first | (with_reducible assumption) | assumption)
              obtain ⟨ad142, e142, hx142_0⟩ := Kd.at_int HR0.out 5 p142 q142
              have hw142_0 := hx142_0
              (try rw [show ((5 : Int)).toNat = 5 from rfl] at hw142_0)
              (try rw [show 5 * 1 = 5 from rfl] at hw142_0)
              (try simp only [Nat.reduceMul, Nat.reduceEqDiff, Go.Addr.add, ↓reduceIte] at hw142_0)
              obtain rfl : ad141 = ad142 := (by injection e142)
              (try simp only [show (5 : Int).toNat = 5 from rfl, Nat.reduceMul, Nat.reduceEqDiff, Go.Addr.add, ↓reduceIte] at hx142_0)
              have qi142 : (5 < l0.length) = True := eq_true (by omega)
              (try rw [show ((5 : Int)).toNat = 5 from rfl] at hx142_0)
              replace hx142_0 := (HB.out.cell (World.block_lt_of_cell? w _ hx142_0)).trans hx142_0
              replace p142 := eq_true p142
              replace q142 := eq_true q142
              refine start_ (n := 11) (S := fun w' => w'.cell? ⟨ad141.block, ad141.off + 4, none⟩ = some (.int .u8 (rd l0 4)) ∧ w'.cell? ⟨ad141.block, ad141.off + 5, none⟩ = some (.int .u8 (rd l0 5))) (ds := []) #[false, false, false, false, false, false, false, false, false, false, false] (by kernel_rfl) rfl rfl ⟨((HB.out.cell (World.block_lt_of_cell? w _ hw141_0)).trans hw141_0), ((HB.out.cell (World.block_lt_of_cell? w _ hw142_0)).trans hw142_0)⟩ (fun hHeld => ?_); refine with_tabW watchkeeperref03_First.tab5 watchkeeperref03_First.bits5 (fun HT_ HW_ => ?_)
              generalize wc.drew = w18 at BK137 HB hx141_0 hx142_0 hHeld ⊢
              refine pure_ (i := 0) (N := some 31) (v := ?_) (a' := ?_) #[true, false, false, false, false, false, false, false, false, false, false] rfl rfl (any_of HT_.out (by kernel_rfl)) (fun _ _ _ h => h) (Or.inl ⟨by rfl, ?_⟩) ?_ ?_
              rotate_left
              · intro w'
                go_simp
                with_reducible rfl
              rotate_left
              · simp only [Act.put, List.setIfInBounds_toArray, List.set_cons_zero, List.set_cons_succ, i64_w, i32_w]
                rfl
              refine pure_ (i := 1) (N := some 32) (v := ?_) (a' := ?_) #[true, true, false, false, false, false, false, false, false, false, false] rfl rfl (any_of HT_.out (by kernel_rfl)) (fun _ _ _ h => h) (Or.inl ⟨by rfl, ?_⟩) ?_ ?_
              rotate_left
              · intro w'
                go_simp
                with_reducible rfl
              rotate_left
              · simp only [Act.put, List.setIfInBounds_toArray, List.set_cons_zero, List.set_cons_succ, i64_w, i32_w]
                rfl
              refine pure_ (i := 5) (N := some 36) (v := ?_) (a' := ?_) #[true, true, false, false, false, true, false, false, false, false, false] rfl rfl (any_of HT_.out (by kernel_rfl)) (fun _ _ _ h => h) (Or.inl ⟨by rfl, ?_⟩) ?_ ?_
              rotate_left
              · intro w'
                go_simp
                with_reducible rfl
              rotate_left
              · simp only [Act.put, List.setIfInBounds_toArray, List.set_cons_zero, List.set_cons_succ, i64_w, i32_w]
                rfl
              refine pure_ (i := 6) (N := some 37) (v := ?_) (a' := ?_) #[true, true, false, false, false, true, true, false, false, false, false] rfl rfl (any_of HT_.out (by kernel_rfl)) (fun _ _ _ h => h) (Or.inl ⟨by rfl, ?_⟩) ?_ ?_
              rotate_left
              · intro w'
                go_simp
                with_reducible rfl
              rotate_left
              · simp only [Act.put, List.setIfInBounds_toArray, List.set_cons_zero, List.set_cons_succ, i64_w, i32_w]
                rfl
              refine take_ (i := 2) (N := some 33) (v := ?_) (a' := ?_) #[true, true, true, false, false, true, true, false, false, false, false] rfl rfl (take_ofW HT_.out HW_.out (by kernel_rfl)) (fun _ _ _ h => h) (Or.inl ⟨by rfl, ?_⟩) hHeld ?_ ?_
              rotate_left
              · rintro w' ⟨s0, s1⟩
                go_simp
                with_reducible rfl
              rotate_left
              · simp only [Act.put, List.setIfInBounds_toArray, List.set_cons_zero, List.set_cons_succ, i64_w, i32_w]
                rfl
              refine pure_ (i := 3) (N := some 34) (v := ?_) (a' := ?_) #[true, true, true, true, false, true, true, false, false, false, false] rfl rfl (any_of HT_.out (by kernel_rfl)) (fun _ _ _ h => h) (Or.inl ⟨by rfl, ?_⟩) ?_ ?_
              rotate_left
              · intro w'
                go_simp
                with_reducible rfl
              rotate_left
              · simp only [Act.put, List.setIfInBounds_toArray, List.set_cons_zero, List.set_cons_succ, i64_w, i32_w]
                rfl
              refine pure_ (i := 4) (N := some 35) (v := ?_) (a' := ?_) #[true, true, true, true, true, true, true, false, false, false, false] rfl rfl (any_of HT_.out (by kernel_rfl)) (fun _ _ _ h => h) (Or.inl ⟨by rfl, ?_⟩) ?_ ?_
              rotate_left
              · intro w'
                go_simp
                with_reducible rfl
              rotate_left
              · simp only [Act.put, List.setIfInBounds_toArray, List.set_cons_zero, List.set_cons_succ, i64_w, i32_w]
                rfl
              refine take_ (i := 7) (N := some 38) (v := ?_) (a' := ?_) #[true, true, true, true, true, true, true, true, false, false, false] rfl rfl (take_ofW HT_.out HW_.out (by kernel_rfl)) (fun _ _ _ h => h) (Or.inl ⟨by rfl, ?_⟩) hHeld ?_ ?_
              rotate_left
              · rintro w' ⟨s0, s1⟩
                go_simp
                with_reducible rfl
              rotate_left
              · simp only [Act.put, List.setIfInBounds_toArray, List.set_cons_zero, List.set_cons_succ, i64_w, i32_w]
                rfl
              refine pure_ (i := 8) (N := some 39) (v := ?_) (a' := ?_) #[true, true, true, true, true, true, true, true, true, false, false] rfl rfl (any_of HT_.out (by kernel_rfl)) (fun _ _ _ h => h) (Or.inl ⟨by rfl, ?_⟩) ?_ ?_
              rotate_left
              · intro w'
                go_simp
                with_reducible rfl
              rotate_left
              · simp only [Act.put, List.setIfInBounds_toArray, List.set_cons_zero, List.set_cons_succ, i64_w, i32_w]
                rfl
              refine pure_ (i := 9) (N := some 40) (v := ?_) (a' := ?_) #[true, true, true, true, true, true, true, true, true, true, false] rfl rfl (any_of HT_.out (by kernel_rfl)) (fun _ _ _ h => h) (Or.inl ⟨by rfl, ?_⟩) ?_ ?_
              rotate_left
              · intro w'
                go_simp
                with_reducible rfl
              rotate_left
              · simp only [Act.put, List.setIfInBounds_toArray, List.set_cons_zero, List.set_cons_succ, i64_w, i32_w]
                rfl
              refine pure_ (i := 10) (N := some 5) (v := ?_) (a' := ?_) #[true, true, true, true, true, true, true, true, true, true, true] rfl rfl (any_of HT_.out (by kernel_rfl)) (fun _ _ _ h => h) (Or.inl ⟨by rfl, ?_⟩) ?_ ?_
              rotate_left
              · intro w'
                go_simp
                with_reducible rfl
              rotate_left
              · simp only [Act.put, List.setIfInBounds_toArray, List.set_cons_zero, List.set_cons_succ, i64_w, i32_w]
                rfl
              refine done_ (done_of HT_.out (by kernel_rfl)) ?_
              go_upto_region 6 with (fail)
              go_cut [46] (fun v46 wc => ∃ (kq : Nat) (x46_16 : Bool), v46 = .bool x46_16 ∧ Aside0 (watchkeeperref03_First.j1 kq l0 (wrap64 ((wrap64 (256 * (wrap64 (rd l0 4)))) + (wrap64 (rd l0 5)))) x46_16 = some (r1, r2, r3, r4, r5)) ∧ Aside0 (kq ≤ kj1) ∧ Aside0 (wc.heap[gb137]? = some (.cells #[.int .u16 0, .int .u8 0, (.slice none 0 0)] 26 (0, 0))) ∧ Aside0 (Below w.heap.size w wc))
              case first =>
                have H := HC17.out
                clear HC17
                by_cases c19 : (wrap64 ((wrap64 (256 * (wrap64 (rd l0 4)))) + (wrap64 (rd l0 5)))) < 2
                · rw [if_pos c19] at H
                  have c19b0 : decide ((wrap64 ((wrap64 (256 * (wrap64 (rd l0 4)))) + (wrap64 (rd l0 5)))) < 2) = true := decide_eq_true c19
                  clear c19
                  (first | rw [c19b0] | (simp only [i64_w, i32_w]; rw [c19b0]) | skip)
                  have H' := Aside0.mk H
                  clear H
                  go_wp2
                  go_meet
                  case rel => exact ⟨_, (true), (by first | rfl | (simp; done) | (simp [*]; done)), H', ⟨by have := HJ1.out; first | omega | exact Nat.le_refl _⟩, ⟨by (with_reducible repeat (first | refine blk_drewN ?_ _ | refine blk_drew ?_ | refine blk_alloc ?_ _)); exact BK137.out⟩, ⟨by repeat (first | (with_reducible first | exact HB.out | apply below_alloc | apply pw_below_drewN | apply below_drew1 | refine below_set ?_ GE137.out) | exact HB.out)⟩⟩
                · rw [if_neg c19] at H
                  have c19b0 : decide ((wrap64 ((wrap64 (256 * (wrap64 (rd l0 4)))) + (wrap64 (rd l0 5)))) < 2) = false := decide_eq_false c19
                  clear c19
                  (first | rw [c19b0] | (simp only [i64_w, i32_w]; rw [c19b0]) | skip)
                  have H' := Aside0.mk H
                  clear H
                  go_wp2
                  go_meet
                  case rel => exact ⟨_, (decide ((wrap64 ((wrap64 (256 * (wrap64 (rd l0 4)))) + (wrap64 (rd l0 5)))) > 254)), (by first | rfl | (simp; done) | (simp [*]; done)), H', ⟨by have := HJ1.out; first | omega | exact Nat.le_refl _⟩, ⟨by (with_reducible repeat (first | refine blk_drewN ?_ _ | refine blk_drew ?_ | refine blk_alloc ?_ _)); exact BK137.out⟩, ⟨by repeat (first | (with_reducible first | exact HB.out | apply below_alloc | apply pw_below_drewN | apply below_drew1 | refine below_set ?_ GE137.out) | exact HB.out)⟩⟩
              case rest =>
                clear HC17
                try clear c1
                try clear p1
                try clear q1
                try clear hx1
                try clear qi1
                try clear p2
                try clear c4
                try clear c4b0
                try clear c4b1
                try clear c5
                try clear c5b0
                try clear c5b1
                try clear c6
                try clear c6b0
                try clear c6b1
                try clear p6
                try clear c7
                try clear c7b0
                try clear c7b1
                try clear c8
                try clear c8b0
                try clear c8b1
                try clear c9
                try clear c9b0
                try clear c9b1
                try clear c10
                try clear c10b0
                try clear c10b1
                try clear c11
                try clear c12
                try clear c13
                try clear c13b0
                try clear c13b1
                try clear p13
                try clear q13
                try clear hx13
                try clear qi13
                try clear p14
                try clear q14
                try clear hx14
                try clear qi14
                try clear c15
                try clear c15b0
                try clear c15b1
                try clear c16
                try clear c16b0
                try clear c16b1
                try clear c19
                try clear c19b0
                try clear hcz12_0
                try clear hcz12_1
                try clear hcz12_2
                try clear hcz14_0
                try clear hcz14_1
                try clear hcz14_2
                try clear hfz12_0
                try clear hfz12_1
                try clear hfz12_2
                try clear hfz14_0
                try clear hfz14_1
                try clear hfz14_2
                try clear hx138_0
                try clear hx139_0
                try clear hx140_0
                try clear hx141_0
                try clear hx142_0
                try clear p1
                try clear p138
                try clear p139
                try clear p140
                try clear p141
                try clear p142
                try clear p2
                try clear q1
                try clear q138
                try clear q139
                try clear q140
                try clear q141
                try clear q142
                obtain ⟨kq, x46_16, rfl, HA, HJ16, BK137, HB⟩ := hcut
                cases kq with
                | zero => exact absurd HA.out (by simp [watchkeeperref03_First.j1])
                | succ kj16 =>
                  have H := HA.out
                  clear HA
                  simp only [watchkeeperref03_First.j1] at H
                  by_cases c20 : x46_16 = true
                  · subst c20
                    have H1 : (some (0, 0, ([] : List Int), 0, 31)) = some (r1, r2, r3, r4, r5) := by rw [if_pos rfl] at H; exact H
                    clear H
                    have H := H1
                    clear H1
                    simp only [Option.some.injEq, Prod.mk.injEq] at H
                    obtain ⟨rfl, rfl, rfl, rfl, rfl⟩ := H
                    have hcz21_0 : wc.cell? ⟨gb137, 0, none⟩ = some (.int .u16 0) := (blk_cell BK137.out 0).trans rfl
                    have hcz21_1 : wc.cell? ⟨gb137, 1, none⟩ = some (.int .u8 0) := (blk_cell BK137.out 1).trans rfl
                    have hcz21_2 : wc.cell? ⟨gb137, 2, none⟩ = some (.slice none 0 0) := (blk_cell BK137.out 2).trans rfl
                    have hfz21_0 := blk_frozen BK137.out 0
                    have hfz21_1 := blk_frozen BK137.out 1
                    have hfz21_2 := blk_frozen BK137.out 2
                    go_wp2
                    refine bodyPost_ret (results_ctt rfl _ _ gb137 26 #[.int .u16 0, .int .u8 0, .slice none 0 0] (0, 0) _ rfl (by (with_reducible repeat (first | refine blk_drewN ?_ _ | refine blk_drew ?_ | refine blk_alloc ?_ _)); refine blk_put (cs := #[.int .u16 0, .int .u8 0, .slice none 0 0]) ?_ 2 _ rfl; (with_reducible repeat (first | refine blk_drewN ?_ _ | refine blk_drew ?_ | refine blk_alloc ?_ _)); refine blk_put (cs := #[.int .u16 0, .int .u8 0, .slice none 0 0]) ?_ 1 _ rfl; (with_reducible repeat (first | refine blk_drewN ?_ _ | refine blk_drew ?_ | refine blk_alloc ?_ _)); refine blk_put (cs := #[.int .u16 0, .int .u8 0, .slice none 0 0]) ?_ 0 _ rfl; (with_reducible repeat (first | refine blk_drewN ?_ _ | refine blk_drew ?_ | refine blk_alloc ?_ _)); exact BK137.out) Try.underlying26 rfl (by kernel_rfl)) rfl ?_
                    exact ⟨_, by first | rfl | (simp [errW_none, errW_some] <;> rfl) | (simp [*, errW_none, errW_some] <;> rfl), by first | exact Kd.R_nil _ _ _ _ _ | exact Kd.N_nil _ _ _ _ _ | exact Kd.V_nil _ _ _ _ _ | exact Kd.Q_nil _ _ _ _ _ | exact Kd.S_nil _ _ _ _ _, by repeat (first | (with_reducible first | exact HB.out | apply below_alloc | apply pw_below_drewN | apply below_drew1 | refine below_set ?_ GE137.out) | exact HB.out)⟩
                  · replace c20 := Bool.eq_false_iff.mpr c20
                    subst c20
                    have H1 : (if (l0.length : Int) < (wrap64 (6 + (wrap64 ((wrap64 (256 * (wrap64 (rd l0 4)))) + (wrap64 (rd l0 5)))))) then (some (0, 0, ([] : List Int), 0, 0)) else (if 0 < (l0.length : Int) then (if 1 < (l0.length : Int) then (if 6 < (l0.length : Int) then ((some (([] : List Int) : List Int)).bind fun y146 => (if 7 ≤ (wrap64 (6 + (wrap64 ((wrap64 (256 * (wrap64 (rd l0 4)))) + (wrap64 (rd l0 5)))))) then (if (wrap64 (6 + (wrap64 ((wrap64 (256 * (wrap64 (rd l0 4)))) + (wrap64 (rd l0 5)))))) ≤ (l0.length : Int) then (if y146.length + ((l0.take ((wrap64 (6 + (wrap64 ((wrap64 (256 * (wrap64 (rd l0 4)))) + (wrap64 (rd l0 5)))))) : Int).toNat).drop 7).length < 140737488355328 then (some (IntKind.u16.wrap ((IntKind.u16.wrap (256 * (IntKind.u16.wrap (rd l0 0)))) + (IntKind.u16.wrap (rd l0 1))), rd l0 6, (y146 ++ ((l0.take ((wrap64 (6 + (wrap64 ((wrap64 (256 * (wrap64 (rd l0 4)))) + (wrap64 (rd l0 5)))))) : Int).toNat).drop 7)), wrap64 (6 + (wrap64 ((wrap64 (256 * (wrap64 (rd l0 4)))) + (wrap64 (rd l0 5))))), 0)) else (none)) else (none)) else (none))) else (none)) else (none)) else (none))) = some (r1, r2, r3, r4, r5) := by rw [if_neg (show ¬ (false = true) by decide)] at H; exact H
                    clear H
                    have H := H1
                    clear H1
                    by_cases c22 : (l0.length : Int) < (wrap64 (6 + (wrap64 ((wrap64 (256 * (wrap64 (rd l0 4)))) + (wrap64 (rd l0 5))))))
                    · rw [if_pos c22] at H
                      have c22b0 : decide ((l0.length : Int) < (wrap64 (6 + (wrap64 ((wrap64 (256 * (wrap64 (rd l0 4)))) + (wrap64 (rd l0 5))))))) = true := decide_eq_true c22
                      clear c22
                      simp only [Option.some.injEq, Prod.mk.injEq] at H
                      obtain ⟨rfl, rfl, rfl, rfl, rfl⟩ := H
                      have hcz23_0 : wc.cell? ⟨gb137, 0, none⟩ = some (.int .u16 0) := (blk_cell BK137.out 0).trans rfl
                      have hcz23_1 : wc.cell? ⟨gb137, 1, none⟩ = some (.int .u8 0) := (blk_cell BK137.out 1).trans rfl
                      have hcz23_2 : wc.cell? ⟨gb137, 2, none⟩ = some (.slice none 0 0) := (blk_cell BK137.out 2).trans rfl
                      have hfz23_0 := blk_frozen BK137.out 0
                      have hfz23_1 := blk_frozen BK137.out 1
                      have hfz23_2 := blk_frozen BK137.out 2
                      go_wp2
                      refine bodyPost_ret (results_ctt rfl _ _ gb137 26 #[.int .u16 0, .int .u8 0, .slice none 0 0] (0, 0) _ rfl (by (with_reducible repeat (first | refine blk_drewN ?_ _ | refine blk_drew ?_ | refine blk_alloc ?_ _)); refine blk_put (cs := #[.int .u16 0, .int .u8 0, .slice none 0 0]) ?_ 2 _ rfl; (with_reducible repeat (first | refine blk_drewN ?_ _ | refine blk_drew ?_ | refine blk_alloc ?_ _)); refine blk_put (cs := #[.int .u16 0, .int .u8 0, .slice none 0 0]) ?_ 1 _ rfl; (with_reducible repeat (first | refine blk_drewN ?_ _ | refine blk_drew ?_ | refine blk_alloc ?_ _)); refine blk_put (cs := #[.int .u16 0, .int .u8 0, .slice none 0 0]) ?_ 0 _ rfl; (with_reducible repeat (first | refine blk_drewN ?_ _ | refine blk_drew ?_ | refine blk_alloc ?_ _)); exact BK137.out) Try.underlying26 rfl (by kernel_rfl)) rfl ?_
                      exact ⟨_, by first | rfl | (simp [errW_none, errW_some] <;> rfl) | (simp [*, errW_none, errW_some] <;> rfl), by first | exact Kd.R_nil _ _ _ _ _ | exact Kd.N_nil _ _ _ _ _ | exact Kd.V_nil _ _ _ _ _ | exact Kd.Q_nil _ _ _ _ _ | exact Kd.S_nil _ _ _ _ _, by repeat (first | (with_reducible first | exact HB.out | apply below_alloc | apply pw_below_drewN | apply below_drew1 | refine below_set ?_ GE137.out) | exact HB.out)⟩
                    · rw [if_neg c22] at H
                      have c22b0 : decide ((l0.length : Int) < (wrap64 (6 + (wrap64 ((wrap64 (256 * (wrap64 (rd l0 4)))) + (wrap64 (rd l0 5))))))) = false := decide_eq_false c22
                      clear c22
                      by_cases c24 : 0 < (l0.length : Int)
                      · rw [if_pos c24] at H
                        have c24b0 : decide (0 < (l0.length : Int)) = true := decide_eq_true c24
                        have c24b1 : decide (0 < l0.length) = true := decide_eq_true (by omega)
                        clear c24
                        by_cases c25 : 1 < (l0.length : Int)
                        · rw [if_pos c25] at H
                          have c25b0 : decide (1 < (l0.length : Int)) = true := decide_eq_true c25
                          have c25b1 : decide (1 < l0.length) = true := decide_eq_true (by omega)
                          clear c25
                          by_cases c26 : 6 < (l0.length : Int)
                          · rw [if_pos c26] at H
                            have c26b0 : decide (6 < (l0.length : Int)) = true := decide_eq_true c26
                            have c26b1 : decide (6 < l0.length) = true := decide_eq_true (by omega)
                            clear c26
                            obtain ⟨y146, hy146⟩ : ∃ y_ : List Int, y_ = (([] : List Int)) := ⟨_, rfl⟩
                            replace H : (if 7 ≤ (wrap64 (6 + (wrap64 ((wrap64 (256 * (wrap64 (rd l0 4)))) + (wrap64 (rd l0 5)))))) then (if (wrap64 (6 + (wrap64 ((wrap64 (256 * (wrap64 (rd l0 4)))) + (wrap64 (rd l0 5)))))) ≤ (l0.length : Int) then (if y146.length + ((l0.take ((wrap64 (6 + (wrap64 ((wrap64 (256 * (wrap64 (rd l0 4)))) + (wrap64 (rd l0 5)))))) : Int).toNat).drop 7).length < 140737488355328 then (some (IntKind.u16.wrap ((IntKind.u16.wrap (256 * (IntKind.u16.wrap (rd l0 0)))) + (IntKind.u16.wrap (rd l0 1))), rd l0 6, (y146 ++ ((l0.take ((wrap64 (6 + (wrap64 ((wrap64 (256 * (wrap64 (rd l0 4)))) + (wrap64 (rd l0 5)))))) : Int).toNat).drop 7)), wrap64 (6 + (wrap64 ((wrap64 (256 * (wrap64 (rd l0 4)))) + (wrap64 (rd l0 5))))), 0)) else (none)) else (none)) else (none)) = some (r1, r2, r3, r4, r5) := by first | (rw [hy146]; with_reducible exact H) | (have H2_ := (Option.bind_some _ _).symm.trans H; rw [hy146]; with_reducible exact H2_) | (have H2_ := (Option.bind_some _ _).symm.trans H; with_reducible exact H2_) | with_reducible exact H | (rw [hy146]; exact H) | exact H
                            have Ny146 := Aside0.mk hy146
                            clear hy146
                            by_cases c27 : 7 ≤ (wrap64 (6 + (wrap64 ((wrap64 (256 * (wrap64 (rd l0 4)))) + (wrap64 (rd l0 5))))))
                            · rw [if_pos c27] at H
                              have c27b0 := eq_true c27
                              have c27b1 : decide (7 ≤ (wrap64 (6 + (wrap64 ((wrap64 (256 * (wrap64 (rd l0 4)))) + (wrap64 (rd l0 5))))))) = true := decide_eq_true c27
                              by_cases c28 : (wrap64 (6 + (wrap64 ((wrap64 (256 * (wrap64 (rd l0 4)))) + (wrap64 (rd l0 5)))))) ≤ (l0.length : Int)
                              · rw [if_pos c28] at H
                                have c28b0 := eq_true c28
                                have c28b1 : decide ((wrap64 (6 + (wrap64 ((wrap64 (256 * (wrap64 (rd l0 4)))) + (wrap64 (rd l0 5)))))) ≤ (l0.length : Int)) = true := decide_eq_true c28
                                by_cases c29 : y146.length + ((l0.take ((wrap64 (6 + (wrap64 ((wrap64 (256 * (wrap64 (rd l0 4)))) + (wrap64 (rd l0 5)))))) : Int).toNat).drop 7).length < 140737488355328
                                · rw [if_pos c29] at H
                                  have LMc29 := Aside0.mk c29
                                  clear c29
                                  obtain ⟨y150, hy150⟩ : ∃ y_ : List Int, y_ = (y146 ++ ((l0.take ((wrap64 (6 + (wrap64 ((wrap64 (256 * (wrap64 (rd l0 4)))) + (wrap64 (rd l0 5)))))) : Int).toNat).drop 7)) := ⟨_, rfl⟩
                                  replace H : (some (IntKind.u16.wrap ((IntKind.u16.wrap (256 * (IntKind.u16.wrap (rd l0 0)))) + (IntKind.u16.wrap (rd l0 1))), rd l0 6, y150, wrap64 (6 + (wrap64 ((wrap64 (256 * (wrap64 (rd l0 4)))) + (wrap64 (rd l0 5))))), 0)) = some (r1, r2, r3, r4, r5) := by first | (rw [hy150]; with_reducible exact H) | (have H2_ := (Option.bind_some _ _).symm.trans H; rw [hy150]; with_reducible exact H2_) | (have H2_ := (Option.bind_some _ _).symm.trans H; with_reducible exact H2_) | with_reducible exact H | (rw [hy150]; exact H) | exact H
                                  have Ny150 := Aside0.mk hy150
                                  clear hy150
                                  simp only [Option.some.injEq, Prod.mk.injEq] at H
                                  obtain ⟨rfl, rfl, rfl, rfl, rfl⟩ := H
                                  try go_wp2
                                  have n0_ := Aside0.mk (blk_drew BK137.out)
                                  have n1_ := Aside0.mk (below_drew1 HB.out)
                                  clear BK137
                                  clear HB
                                  have BK137 := n0_
                                  have HB := n1_
                                  clear n0_ n1_
                                  have p143 : 0 ≤ (0 : Int) := (by omega)
                                  have q143 : 0 < (l0.length : Int) := of_decide_eq_true (by first | (with_reducible assumption) | assumption)
                                  obtain ⟨ad143, e143, hx143_0⟩ := Kd.at_int HR0.out 0 p143 q143
                                  have hw143_0 := hx143_0
                                  (try rw [show ((0 : Int)).toNat = 0 from rfl] at hw143_0)
                                  (try rw [show 0 * 1 = 0 from rfl] at hw143_0)
                                  (try rw [Addr.add_zero'] at hw143_0)
                                  obtain rfl : ad141 = ad143 := (by injection e143)
                                  have qi143 : (0 < l0.length) = True := eq_true (by omega)
                                  (try rw [show ((0 : Int)).toNat = 0 from rfl] at hx143_0)
                                  (try rw [Addr.add_zero'] at hx143_0)
                                  replace hx143_0 := (HB.out.cell (World.block_lt_of_cell? w _ hx143_0)).trans hx143_0
                                  replace p143 := eq_true p143
                                  replace q143 := eq_true q143
                                  have p144 : 0 ≤ (1 : Int) := (by omega)
                                  have q144 : 1 < (l0.length : Int) := of_decide_eq_true (by first | (with_reducible assumption) | assumption)
                                  obtain ⟨ad144, e144, hx144_0⟩ := Kd.at_int HR0.out 1 p144 q144
                                  have hw144_0 := hx144_0
                                  (try rw [show ((1 : Int)).toNat = 1 from rfl] at hw144_0)
                                  (try rw [show 1 * 1 = 1 from rfl] at hw144_0)
                                  (try simp only [Nat.reduceMul, Nat.reduceEqDiff, Go.Addr.add, ↓reduceIte] at hw144_0)
                                  obtain rfl : ad141 = ad144 := (by injection e144)
                                  (try simp only [show (1 : Int).toNat = 1 from rfl, Nat.reduceMul, Nat.reduceEqDiff, Go.Addr.add, ↓reduceIte] at hx144_0)
                                  have qi144 : (1 < l0.length) = True := eq_true (by omega)
                                  (try rw [show ((1 : Int)).toNat = 1 from rfl] at hx144_0)
                                  replace hx144_0 := (HB.out.cell (World.block_lt_of_cell? w _ hx144_0)).trans hx144_0
                                  replace p144 := eq_true p144
                                  replace q144 := eq_true q144
                                  have p145 : 0 ≤ (6 : Int) := (by omega)
                                  have q145 : 6 < (l0.length : Int) := of_decide_eq_true (by first | (with_reducible assumption) | assumption)
                                  obtain ⟨ad145, e145, hx145_0⟩ := Kd.at_int HR0.out 6 p145 q145
                                  have hw145_0 := hx145_0
                                  (try rw [show ((6 : Int)).toNat = 6 from rfl] at hw145_0)
                                  (try rw [show 6 * 1 = 6 from rfl] at hw145_0)
                                  (try simp only [Nat.reduceMul, Nat.reduceEqDiff, Go.Addr.add, ↓reduceIte] at hw145_0)
                                  obtain rfl : ad141 = ad145 := (by injection e145)
                                  (try simp only [show (6 : Int).toNat = 6 from rfl, Nat.reduceMul, Nat.reduceEqDiff, Go.Addr.add, ↓reduceIte] at hx145_0)
                                  have qi145 : (6 < l0.length) = True := eq_true (by omega)
                                  (try rw [show ((6 : Int)).toNat = 6 from rfl] at hx145_0)
                                  replace hx145_0 := (HB.out.cell (World.block_lt_of_cell? w _ hx145_0)).trans hx145_0
                                  replace p145 := eq_true p145
                                  replace q145 := eq_true q145
                                  obtain ⟨i031, hi031, _, hsz31, _⟩ := info_parts info5
                                  obtain ⟨A31, hcut31, hA31, hC31⟩ := print_mid_of (P := Try.prog) (Value.int .u8) 0 22 5 .i64 .i64 Try.underlying22 hi031 hsz31 (some ad141) c0 l0 7 (wrap64 (6 + (wrap64 ((wrap64 (256 * (wrap64 (rd l0 4)))) + (wrap64 (rd l0 5)))))) (by omega) (by first | omega | exact of_decide_eq_true (by first | (with_reducible assumption) | assumption)) (of_decide_eq_true (by first | (with_reducible assumption) | assumption)) HC0.out
                                  have HR149 := Aside0.mk (Kd.C_of_reads (h1 := fun _ => rfl) (hA31 _ (Kd.reads_of_C HR0.out)))
                                  have HC149 := Aside0.mk hC31
                                  clear hA31 hC31 hi031 hsz31
                                  refine start_ (n := 25) (S := fun w' => w'.cell? ad141 = some (.int .u8 (rd l0 0)) ∧ w'.cell? ⟨ad141.block, ad141.off + 1, none⟩ = some (.int .u8 (rd l0 1)) ∧ w'.cell? ⟨ad141.block, ad141.off + 6, none⟩ = some (.int .u8 (rd l0 6))) (ds := []) #[false, false, false, false, false, false, false, false, false, false, false, false, false, false, false, false, false, false, false, false, false, false, false, false, false] (by kernel_rfl) rfl rfl ⟨((HB.out.cell (World.block_lt_of_cell? w _ hw143_0)).trans hw143_0), ((HB.out.cell (World.block_lt_of_cell? w _ hw144_0)).trans hw144_0), ((HB.out.cell (World.block_lt_of_cell? w _ hw145_0)).trans hw145_0)⟩ (fun hHeld => ?_); refine with_tabW watchkeeperref03_First.tab10 watchkeeperref03_First.bits10 (fun HT_ HW_ => ?_)
                                  generalize wc.drew = w30 at BK137 HB HR149 hx143_0 hx144_0 hx145_0 hHeld ⊢
                                  refine pure_ (i := 0) (N := some 54) (v := ?_) (a' := ?_) #[true, false, false, false, false, false, false, false, false, false, false, false, false, false, false, false, false, false, false, false, false, false, false, false, false] rfl rfl (any_of HT_.out (by kernel_rfl)) (fun _ _ _ h => h) (Or.inl ⟨by rfl, ?_⟩) ?_ ?_
                                  rotate_left
                                  · intro w'
                                    go_simp
                                    with_reducible rfl
                                  rotate_left
                                  · simp only [Act.put, List.setIfInBounds_toArray, List.set_cons_zero, List.set_cons_succ, i64_w, i32_w]
                                    rfl
                                  refine pure_ (i := 1) (N := some 55) (v := ?_) (a' := ?_) #[true, true, false, false, false, false, false, false, false, false, false, false, false, false, false, false, false, false, false, false, false, false, false, false, false] rfl rfl (any_of HT_.out (by kernel_rfl)) (fun _ _ _ h => h) (Or.inl ⟨by rfl, ?_⟩) ?_ ?_
                                  rotate_left
                                  · intro w'
                                    go_simp
                                    with_reducible rfl
                                  rotate_left
                                  · simp only [Act.put, List.setIfInBounds_toArray, List.set_cons_zero, List.set_cons_succ, i64_w, i32_w]
                                    rfl
                                  refine pure_ (i := 5) (N := some 59) (v := ?_) (a' := ?_) #[true, true, false, false, false, true, false, false, false, false, false, false, false, false, false, false, false, false, false, false, false, false, false, false, false] rfl rfl (any_of HT_.out (by kernel_rfl)) (fun _ _ _ h => h) (Or.inl ⟨by rfl, ?_⟩) ?_ ?_
                                  rotate_left
                                  · intro w'
                                    go_simp
                                    with_reducible rfl
                                  rotate_left
                                  · simp only [Act.put, List.setIfInBounds_toArray, List.set_cons_zero, List.set_cons_succ, i64_w, i32_w]
                                    rfl
                                  refine pure_ (i := 6) (N := some 60) (v := ?_) (a' := ?_) #[true, true, false, false, false, true, true, false, false, false, false, false, false, false, false, false, false, false, false, false, false, false, false, false, false] rfl rfl (any_of HT_.out (by kernel_rfl)) (fun _ _ _ h => h) (Or.inl ⟨by rfl, ?_⟩) ?_ ?_
                                  rotate_left
                                  · intro w'
                                    go_simp
                                    with_reducible rfl
                                  rotate_left
                                  · simp only [Act.put, List.setIfInBounds_toArray, List.set_cons_zero, List.set_cons_succ, i64_w, i32_w]
                                    rfl
                                  refine pure_ (i := 10) (N := some 64) (v := ?_) (a' := ?_) #[true, true, false, false, false, true, true, false, false, false, true, false, false, false, false, false, false, false, false, false, false, false, false, false, false] rfl rfl (any_of HT_.out (by kernel_rfl)) (fun _ _ _ h => h) (Or.inl ⟨by rfl, ?_⟩) ?_ ?_
                                  rotate_left
                                  · intro w'
                                    go_simp
                                    with_reducible rfl
                                  rotate_left
                                  · simp only [Act.put, List.setIfInBounds_toArray, List.set_cons_zero, List.set_cons_succ, i64_w, i32_w]
                                    rfl
                                  refine pure_ (i := 11) (N := some 65) (v := ?_) (a' := ?_) #[true, true, false, false, false, true, true, false, false, false, true, true, false, false, false, false, false, false, false, false, false, false, false, false, false] rfl rfl (any_of HT_.out (by kernel_rfl)) (fun _ _ _ h => h) (Or.inl ⟨by rfl, ?_⟩) ?_ ?_
                                  rotate_left
                                  · intro w'
                                    go_simp
                                    with_reducible rfl
                                  rotate_left
                                  · simp only [Act.put, List.setIfInBounds_toArray, List.set_cons_zero, List.set_cons_succ, i64_w, i32_w]
                                    rfl
                                  refine pure_ (i := 14) (N := some 68) (v := ?_) (a' := ?_) #[true, true, false, false, false, true, true, false, false, false, true, true, false, false, true, false, false, false, false, false, false, false, false, false, false] rfl rfl (any_of HT_.out (by kernel_rfl)) (fun _ _ _ h => h) (Or.inl ⟨by rfl, ?_⟩) ?_ ?_
                                  rotate_left
                                  · intro w'
                                    go_simp
                                    with_reducible rfl
                                  rotate_left
                                  · simp only [Act.put, List.setIfInBounds_toArray, List.set_cons_zero, List.set_cons_succ, i64_w, i32_w]
                                    rfl
                                  refine pure_ (i := 15) (N := some 69) (v := ?_) (a' := ?_) #[true, true, false, false, false, true, true, false, false, false, true, true, false, false, true, true, false, false, false, false, false, false, false, false, false] rfl rfl (any_of HT_.out (by kernel_rfl)) (fun _ _ _ h => h) (Or.inl ⟨by rfl, ?_⟩) ?_ ?_
                                  rotate_left
                                  · intro w'
                                    go_simp
                                    with_reducible rfl
                                  rotate_left
                                  · simp only [Act.put, List.setIfInBounds_toArray, List.set_cons_zero, List.set_cons_succ, i64_w, i32_w]
                                    rfl
                                  refine pure_ (i := 16) (N := some 70) (v := ?_) (a' := ?_) #[true, true, false, false, false, true, true, false, false, false, true, true, false, false, true, true, true, false, false, false, false, false, false, false, false] rfl rfl (any_of HT_.out (by kernel_rfl)) (fun _ _ _ h => h) (Or.inl ⟨by rfl, ?_⟩) ?_ ?_
                                  rotate_left
                                  · intro w'
                                    go_simp
                                    with_reducible rfl
                                  rotate_left
                                  · simp only [Act.put, List.setIfInBounds_toArray, List.set_cons_zero, List.set_cons_succ, i64_w, i32_w]
                                    rfl
                                  refine pure_ (i := 17) (N := some 71) (v := ?_) (a' := ?_) #[true, true, false, false, false, true, true, false, false, false, true, true, false, false, true, true, true, true, false, false, false, false, false, false, false] rfl rfl (any_of HT_.out (by kernel_rfl)) (fun _ _ _ h => h) (Or.inl ⟨by rfl, ?_⟩) ?_ ?_
                                  rotate_left
                                  · intro w'
                                    go_simp
                                    with_reducible rfl
                                  rotate_left
                                  · simp only [Act.put, List.setIfInBounds_toArray, List.set_cons_zero, List.set_cons_succ, i64_w, i32_w]
                                    rfl
                                  refine pure_ (i := 20) (N := some 74) (v := ?_) (a' := ?_) #[true, true, false, false, false, true, true, false, false, false, true, true, false, false, true, true, true, true, false, false, true, false, false, false, false] rfl rfl (any_of HT_.out (by kernel_rfl)) (fun _ _ _ h => h) (Or.inl ⟨by rfl, ?_⟩) ?_ ?_
                                  rotate_left
                                  · intro w'
                                    go_simp
                                    with_reducible rfl
                                  rotate_left
                                  · simp only [Act.put, List.setIfInBounds_toArray, List.set_cons_zero, List.set_cons_succ, i64_w, i32_w]
                                    rfl
                                  refine pure_ (i := 21) (N := some 75) (v := ?_) (a' := ?_) #[true, true, false, false, false, true, true, false, false, false, true, true, false, false, true, true, true, true, false, false, true, true, false, false, false] rfl rfl (any_of HT_.out (by kernel_rfl)) (fun _ _ _ h => h) (Or.inl ⟨by rfl, ?_⟩) ?_ ?_
                                  rotate_left
                                  · intro w'
                                    go_simp
                                    with_reducible rfl
                                  rotate_left
                                  · simp only [Act.put, List.setIfInBounds_toArray, List.set_cons_zero, List.set_cons_succ, i64_w, i32_w]
                                    rfl
                                  refine take_ (i := 2) (N := some 56) (v := ?_) (a' := ?_) #[true, true, true, false, false, true, true, false, false, false, true, true, false, false, true, true, true, true, false, false, true, true, false, false, false] rfl rfl (take_ofW HT_.out HW_.out (by kernel_rfl)) (fun _ _ _ h => h) (Or.inl ⟨by rfl, ?_⟩) hHeld ?_ ?_
                                  rotate_left
                                  · rintro w' ⟨s0, s1, s2⟩
                                    go_simp
                                    with_reducible rfl
                                  rotate_left
                                  · simp only [Act.put, List.setIfInBounds_toArray, List.set_cons_zero, List.set_cons_succ, i64_w, i32_w]
                                    rfl
                                  refine pure_ (i := 3) (N := some 57) (v := ?_) (a' := ?_) #[true, true, true, true, false, true, true, false, false, false, true, true, false, false, true, true, true, true, false, false, true, true, false, false, false] rfl rfl (any_of HT_.out (by kernel_rfl)) (fun _ _ _ h => h) (Or.inl ⟨by rfl, ?_⟩) ?_ ?_
                                  rotate_left
                                  · intro w'
                                    go_simp
                                    with_reducible rfl
                                  rotate_left
                                  · simp only [Act.put, List.setIfInBounds_toArray, List.set_cons_zero, List.set_cons_succ, i64_w, i32_w]
                                    rfl
                                  refine pure_ (i := 4) (N := some 58) (v := ?_) (a' := ?_) #[true, true, true, true, true, true, true, false, false, false, true, true, false, false, true, true, true, true, false, false, true, true, false, false, false] rfl rfl (any_of HT_.out (by kernel_rfl)) (fun _ _ _ h => h) (Or.inl ⟨by rfl, ?_⟩) ?_ ?_
                                  rotate_left
                                  · intro w'
                                    go_simp
                                    with_reducible rfl
                                  rotate_left
                                  · simp only [Act.put, List.setIfInBounds_toArray, List.set_cons_zero, List.set_cons_succ, i64_w, i32_w]
                                    rfl
                                  refine take_ (i := 7) (N := some 61) (v := ?_) (a' := ?_) #[true, true, true, true, true, true, true, true, false, false, true, true, false, false, true, true, true, true, false, false, true, true, false, false, false] rfl rfl (take_ofW HT_.out HW_.out (by kernel_rfl)) (fun _ _ _ h => h) (Or.inl ⟨by rfl, ?_⟩) hHeld ?_ ?_
                                  rotate_left
                                  · rintro w' ⟨s0, s1, s2⟩
                                    go_simp
                                    with_reducible rfl
                                  rotate_left
                                  · simp only [Act.put, List.setIfInBounds_toArray, List.set_cons_zero, List.set_cons_succ, i64_w, i32_w]
                                    rfl
                                  refine pure_ (i := 8) (N := some 62) (v := ?_) (a' := ?_) #[true, true, true, true, true, true, true, true, true, false, true, true, false, false, true, true, true, true, false, false, true, true, false, false, false] rfl rfl (any_of HT_.out (by kernel_rfl)) (fun _ _ _ h => h) (Or.inl ⟨by rfl, ?_⟩) ?_ ?_
                                  rotate_left
                                  · intro w'
                                    go_simp
                                    with_reducible rfl
                                  rotate_left
                                  · simp only [Act.put, List.setIfInBounds_toArray, List.set_cons_zero, List.set_cons_succ, i64_w, i32_w]
                                    rfl
                                  refine pure_ (i := 9) (N := some 63) (v := ?_) (a' := ?_) #[true, true, true, true, true, true, true, true, true, true, true, true, false, false, true, true, true, true, false, false, true, true, false, false, false] rfl rfl (any_of HT_.out (by kernel_rfl)) (fun _ _ _ h => h) (Or.inl ⟨by rfl, ?_⟩) ?_ ?_
                                  rotate_left
                                  · intro w'
                                    go_simp
                                    with_reducible rfl
                                  rotate_left
                                  · simp only [Act.put, List.setIfInBounds_toArray, List.set_cons_zero, List.set_cons_succ, i64_w, i32_w]
                                    rfl
                                  refine take_ (i := 12) (N := some 66) (v := ?_) (a' := ?_) #[true, true, true, true, true, true, true, true, true, true, true, true, true, false, true, true, true, true, false, false, true, true, false, false, false] rfl rfl (take_ofW HT_.out HW_.out (by kernel_rfl)) (fun _ _ _ h => h) (Or.inl ⟨by rfl, ?_⟩) hHeld ?_ ?_
                                  rotate_left
                                  · rintro w' ⟨s0, s1, s2⟩
                                    go_simp
                                    with_reducible rfl
                                  rotate_left
                                  · simp only [Act.put, List.setIfInBounds_toArray, List.set_cons_zero, List.set_cons_succ, i64_w, i32_w]
                                    rfl
                                  refine one_ (i := 13) (N := some 67) #[true, true, true, true, true, true, true, true, true, true, true, true, true, true, true, true, true, true, false, false, true, true, false, false, false] rfl rfl (one_of HT_.out (by kernel_rfl)) (by decide) (fun K hK => ?_)
                                  refine Kd.R_lit_step (Kd.int .u8) _ 5 ?hg (N := 67) ?hd (xs := ([] : List Int)) (inner := []) (ok := fun _ => True) (okp := fun _ => True) ?hr ?hp (fun _ hk => hk) trivial (Below.refl _ _) (Nat.le_refl _) (by simp) ?_; (case hd => rfl); (case hg => rfl); (case hr => first | (go_simp; done) | (go_simp; rfl)); (case hp => exact (Reps.none _ _))
                                  intro v147 w32 ho33 hb hg_ hnew_
                                  clear hg_ hnew_
                                  (first | rw [← Ny146.out] at ho33 | (simp only [Int.reduceToNat] at ho33; rw [← Ny146.out] at ho33))
                                  have n0_ := Aside0.mk (Kd.R_lower ho33 (below_size (by repeat (first | (with_reducible first | exact HB.out | apply below_alloc | apply pw_below_drewN | apply below_drew1 | refine below_set ?_ GE137.out) | exact HB.out))))
                                  have n1_ := Aside0.mk (blk_below (g := gb137) (o := .cells #[.int .u16 0, .int .u8 0, .slice none 0 0] 26 (0, 0)) (by (with_reducible repeat (first | refine blk_drewN ?_ _ | refine blk_drew ?_ | refine blk_alloc ?_ _)); exact BK137.out) hb)
                                  have n2_ := Aside0.mk (below_step (by repeat (first | (with_reducible first | exact HB.out | apply below_alloc | apply pw_below_drewN | apply below_drew1 | refine below_set ?_ GE137.out) | exact HB.out)) hb)
                                  clear BK137
                                  clear HB
                                  have HO148 := n0_
                                  have BK137 := n1_
                                  have HB := n2_
                                  clear n0_ n1_ n2_
                                  clear hb ho33
                                  refine hK.out _ _ ⟨((HB.out.cell (World.block_lt_of_cell? w _ hw143_0)).trans hw143_0), ((HB.out.cell (World.block_lt_of_cell? w _ hw144_0)).trans hw144_0), ((HB.out.cell (World.block_lt_of_cell? w _ hw145_0)).trans hw145_0)⟩ (fun hHeld => ?_)
                                  clear hK K
                                  refine norm_ (a' := ?_) ?_ ?_
                                  rotate_left
                                  · show Act.put _ (some 67) _ = _
                                    simp only [Act.put, List.setIfInBounds_toArray, List.set_cons_zero, List.set_cons_succ, i64_w, i32_w]
                                    rfl
                                  refine one_ (i := 18) (N := some 72) #[true, true, true, true, true, true, true, true, true, true, true, true, true, true, true, true, true, true, true, false, true, true, false, false, false] rfl rfl (one_of HT_.out (by kernel_rfl)) (by decide) (fun K hK => ?_)
                                  refine Kd.R_append_rows_step (Kd.int .u8) (w0 := w) w.heap.size (by rfl) (.tmp 67) (.tmp 71) 22 5 (.int .u8 0) 1 rfl Try.underlying22 info5 rfl (by decide) (by omega) v147 y146 ((l0.take ((wrap64 (6 + (wrap64 ((wrap64 (256 * (wrap64 (rd l0 4)))) + (wrap64 (rd l0 5)))))) : Int).toNat).drop 7) _ _ _ (fun _ => True) (fun _ => False) rfl rfl ?aO ?aR (fun _ _ h => h) (fun _ h => h.elim) ?aF ?aB ?aS ?aL ?_
                                  (case aR => first | (rw [← show ((l0.take ((wrap64 (6 + (wrap64 ((wrap64 (256 * (wrap64 (rd l0 4)))) + (wrap64 (rd l0 5)))))) : Int).toNat).drop 7).length = ((wrap64 (6 + (wrap64 ((wrap64 (256 * (wrap64 (rd l0 4)))) + (wrap64 (rd l0 5)))))).toNat - 7) from (by rw [List.length_drop, List.length_take]; have h_ : ((wrap64 (6 + (wrap64 ((wrap64 (256 * (wrap64 (rd l0 4)))) + (wrap64 (rd l0 5)))))) : Int) ≤ (l0.length : Int) := of_decide_eq_true (by first | (with_reducible assumption) | assumption); omega)]; repeat (first | exact (Kd.C_below HR149.out HB.out) | (with_reducible refine Kd.C_alloc ?_ _) | (with_reducible refine Kd.C_drewN ?_ _) | (with_reducible refine Kd.C_drew ?_))) | (repeat (first | exact (Kd.C_below HR149.out HB.out) | (with_reducible refine Kd.C_alloc ?_ _) | (with_reducible refine Kd.C_drewN ?_ _) | (with_reducible refine Kd.C_drew ?_))))
                                  (case aB => exact (by repeat (first | (with_reducible first | exact HB.out | apply below_alloc | apply pw_below_drewN | apply below_drew1 | refine below_set ?_ GE137.out) | exact HB.out)))
                                  (case aF => exact (fun _ _ => trivial))
                                  (case aO => exact (by (with_reducible repeat (first | apply Kd.R_alloc | apply Kd.R_drewN | apply Kd.R_drew)); exact HO148.out))
                                  (case aS => exact (below_size (by repeat (first | (with_reducible first | exact HB.out | apply below_alloc | apply pw_below_drewN | apply below_drew1 | refine below_set ?_ GE137.out) | exact HB.out))))
                                  (case aL => have := LMc29.out; have hlx_ := (show ((l0.take ((wrap64 (6 + (wrap64 ((wrap64 (256 * (wrap64 (rd l0 4)))) + (wrap64 (rd l0 5)))))) : Int).toNat).drop 7).length = ((wrap64 (6 + (wrap64 ((wrap64 (256 * (wrap64 (rd l0 4)))) + (wrap64 (rd l0 5)))))).toNat - 7) from (by rw [List.length_drop, List.length_take]; have h_ : ((wrap64 (6 + (wrap64 ((wrap64 (256 * (wrap64 (rd l0 4)))) + (wrap64 (rd l0 5)))))) : Int) ≤ (l0.length : Int) := of_decide_eq_true (by first | (with_reducible assumption) | assumption); omega)); omega)
                                  intro v151 w34 ho hb hg hat
                                  rw [← Ny150.out] at ho
                                  have n0_ := Aside0.mk (blk_grown (g := gb137) (o := .cells #[.int .u16 0, .int .u8 0, .slice none 0 0] 26 (0, 0)) (by (with_reducible repeat (first | refine blk_drewN ?_ _ | refine blk_drew ?_ | refine blk_alloc ?_ _)); exact BK137.out) hg (Kd.R_ne HO148.out BK137.out (by decide)))
                                  have n1_ := Aside0.mk (hb)
                                  have n2_ := Aside0.mk (ho)
                                  clear BK137
                                  clear HB
                                  clear HO148
                                  have BK137 := n0_
                                  have HB := n1_
                                  have HO152 := n2_
                                  clear n0_ n1_ n2_
                                  clear ho hb hg hat
                                  obtain ⟨Ao35, co35, eo35⟩ := Kd.R_slice HO152.out
                                  (first | subst eo35 | (injection eo35 with f1_ f2_ f3_; have f4_ := f1_.symm; have f5_ := f3_.symm; clear f1_ f2_ f3_; subst f4_; subst f5_))
                                  refine hK.out _ _ ⟨((HB.out.cell (World.block_lt_of_cell? w _ hw143_0)).trans hw143_0), ((HB.out.cell (World.block_lt_of_cell? w _ hw144_0)).trans hw144_0), ((HB.out.cell (World.block_lt_of_cell? w _ hw145_0)).trans hw145_0)⟩ (fun hHeld => ?_)
                                  clear hK K
                                  refine norm_ (a' := ?_) ?_ ?_
                                  rotate_left
                                  · show Act.put _ (some 72) _ = _
                                    simp only [Act.put, List.setIfInBounds_toArray, List.set_cons_zero, List.set_cons_succ, i64_w, i32_w]
                                    rfl
                                  refine pure_ (i := 19) (N := some 73) (v := ?_) (a' := ?_) #[true, true, true, true, true, true, true, true, true, true, true, true, true, true, true, true, true, true, true, true, true, true, false, false, false] rfl rfl (any_of HT_.out (by kernel_rfl)) (fun _ _ _ h => h) (Or.inl ⟨by rfl, ?_⟩) ?_ ?_
                                  rotate_left
                                  · intro w'
                                    go_simp
                                    with_reducible rfl
                                  rotate_left
                                  · simp only [Act.put, List.setIfInBounds_toArray, List.set_cons_zero, List.set_cons_succ, i64_w, i32_w]
                                    rfl
                                  refine one_ (i := 22) (N := none) #[true, true, true, true, true, true, true, true, true, true, true, true, true, true, true, true, true, true, true, true, true, true, true, false, false] rfl rfl (one_of HT_.out (by kernel_rfl)) (by decide) (fun K hK => ?_)
                                  have hs36 : w34.cell? ⟨gb137, 0, none⟩ = some (.int .u16 0) := (blk_cell BK137.out 0).trans rfl
                                  have hfs36 := blk_frozen BK137.out 0
                                  have hs37 : w34.cell? ⟨gb137, 1, none⟩ = some (.int .u8 0) := (blk_cell BK137.out 1).trans rfl
                                  have hfs37 := blk_frozen BK137.out 1
                                  have hs38 : w34.cell? ⟨gb137, 2, none⟩ = some (.slice none 0 0) := (blk_cell BK137.out 2).trans rfl
                                  have hfs38 := blk_frozen BK137.out 2
                                  refine skip_ (w1 := ?_) (by rfl) rfl ?_ ?_
                                  rotate_left
                                  · go_simp
                                    rfl
                                  refine hK.out _ _ ⟨((cell_far (p := ⟨gb137, _, none⟩) (by first | exact Nat.ne_of_lt (Nat.lt_of_lt_of_le (by have := World.block_lt_of_cell? _ _ hw143_0; first | rwa [add_block] at this | exact this) GW137.out) | (rw [add_block]; exact Nat.ne_of_lt (Nat.lt_of_lt_of_le (by have := World.block_lt_of_cell? _ _ hw143_0; first | rwa [add_block] at this | exact this) GW137.out)) | (show (Addr.add _ _).block ≠ _; rw [add_block]; exact Nat.ne_of_lt (Nat.lt_of_lt_of_le (by have := World.block_lt_of_cell? _ _ hw143_0; first | rwa [add_block] at this | exact this) GW137.out)) | (dsimp only; exact Nat.ne_of_lt (Nat.lt_of_lt_of_le (by have := World.block_lt_of_cell? _ _ hw143_0; first | rwa [add_block] at this | exact this) GW137.out))) _).trans (((cell_far (p := ⟨gb137, _, none⟩) (by first | exact Nat.ne_of_lt (Nat.lt_of_lt_of_le (by have := World.block_lt_of_cell? _ _ hw143_0; first | rwa [add_block] at this | exact this) GW137.out) | (rw [add_block]; exact Nat.ne_of_lt (Nat.lt_of_lt_of_le (by have := World.block_lt_of_cell? _ _ hw143_0; first | rwa [add_block] at this | exact this) GW137.out)) | (show (Addr.add _ _).block ≠ _; rw [add_block]; exact Nat.ne_of_lt (Nat.lt_of_lt_of_le (by have := World.block_lt_of_cell? _ _ hw143_0; first | rwa [add_block] at this | exact this) GW137.out)) | (dsimp only; exact Nat.ne_of_lt (Nat.lt_of_lt_of_le (by have := World.block_lt_of_cell? _ _ hw143_0; first | rwa [add_block] at this | exact this) GW137.out))) _).trans (((cell_far (p := ⟨gb137, _, none⟩) (by first | exact Nat.ne_of_lt (Nat.lt_of_lt_of_le (by have := World.block_lt_of_cell? _ _ hw143_0; first | rwa [add_block] at this | exact this) GW137.out) | (rw [add_block]; exact Nat.ne_of_lt (Nat.lt_of_lt_of_le (by have := World.block_lt_of_cell? _ _ hw143_0; first | rwa [add_block] at this | exact this) GW137.out)) | (show (Addr.add _ _).block ≠ _; rw [add_block]; exact Nat.ne_of_lt (Nat.lt_of_lt_of_le (by have := World.block_lt_of_cell? _ _ hw143_0; first | rwa [add_block] at this | exact this) GW137.out)) | (dsimp only; exact Nat.ne_of_lt (Nat.lt_of_lt_of_le (by have := World.block_lt_of_cell? _ _ hw143_0; first | rwa [add_block] at this | exact this) GW137.out))) _).trans (hHeld.1)))))), ((cell_far (p := ⟨gb137, _, none⟩) (by first | exact Nat.ne_of_lt (Nat.lt_of_lt_of_le (by have := World.block_lt_of_cell? _ _ hw144_0; first | rwa [add_block] at this | exact this) GW137.out) | (rw [add_block]; exact Nat.ne_of_lt (Nat.lt_of_lt_of_le (by have := World.block_lt_of_cell? _ _ hw144_0; first | rwa [add_block] at this | exact this) GW137.out)) | (show (Addr.add _ _).block ≠ _; rw [add_block]; exact Nat.ne_of_lt (Nat.lt_of_lt_of_le (by have := World.block_lt_of_cell? _ _ hw144_0; first | rwa [add_block] at this | exact this) GW137.out)) | (dsimp only; exact Nat.ne_of_lt (Nat.lt_of_lt_of_le (by have := World.block_lt_of_cell? _ _ hw144_0; first | rwa [add_block] at this | exact this) GW137.out))) _).trans (((cell_far (p := ⟨gb137, _, none⟩) (by first | exact Nat.ne_of_lt (Nat.lt_of_lt_of_le (by have := World.block_lt_of_cell? _ _ hw144_0; first | rwa [add_block] at this | exact this) GW137.out) | (rw [add_block]; exact Nat.ne_of_lt (Nat.lt_of_lt_of_le (by have := World.block_lt_of_cell? _ _ hw144_0; first | rwa [add_block] at this | exact this) GW137.out)) | (show (Addr.add _ _).block ≠ _; rw [add_block]; exact Nat.ne_of_lt (Nat.lt_of_lt_of_le (by have := World.block_lt_of_cell? _ _ hw144_0; first | rwa [add_block] at this | exact this) GW137.out)) | (dsimp only; exact Nat.ne_of_lt (Nat.lt_of_lt_of_le (by have := World.block_lt_of_cell? _ _ hw144_0; first | rwa [add_block] at this | exact this) GW137.out))) _).trans (((cell_far (p := ⟨gb137, _, none⟩) (by first | exact Nat.ne_of_lt (Nat.lt_of_lt_of_le (by have := World.block_lt_of_cell? _ _ hw144_0; first | rwa [add_block] at this | exact this) GW137.out) | (rw [add_block]; exact Nat.ne_of_lt (Nat.lt_of_lt_of_le (by have := World.block_lt_of_cell? _ _ hw144_0; first | rwa [add_block] at this | exact this) GW137.out)) | (show (Addr.add _ _).block ≠ _; rw [add_block]; exact Nat.ne_of_lt (Nat.lt_of_lt_of_le (by have := World.block_lt_of_cell? _ _ hw144_0; first | rwa [add_block] at this | exact this) GW137.out)) | (dsimp only; exact Nat.ne_of_lt (Nat.lt_of_lt_of_le (by have := World.block_lt_of_cell? _ _ hw144_0; first | rwa [add_block] at this | exact this) GW137.out))) _).trans (hHeld.2.1)))))), ((cell_far (p := ⟨gb137, _, none⟩) (by first | exact Nat.ne_of_lt (Nat.lt_of_lt_of_le (by have := World.block_lt_of_cell? _ _ hw145_0; first | rwa [add_block] at this | exact this) GW137.out) | (rw [add_block]; exact Nat.ne_of_lt (Nat.lt_of_lt_of_le (by have := World.block_lt_of_cell? _ _ hw145_0; first | rwa [add_block] at this | exact this) GW137.out)) | (show (Addr.add _ _).block ≠ _; rw [add_block]; exact Nat.ne_of_lt (Nat.lt_of_lt_of_le (by have := World.block_lt_of_cell? _ _ hw145_0; first | rwa [add_block] at this | exact this) GW137.out)) | (dsimp only; exact Nat.ne_of_lt (Nat.lt_of_lt_of_le (by have := World.block_lt_of_cell? _ _ hw145_0; first | rwa [add_block] at this | exact this) GW137.out))) _).trans (((cell_far (p := ⟨gb137, _, none⟩) (by first | exact Nat.ne_of_lt (Nat.lt_of_lt_of_le (by have := World.block_lt_of_cell? _ _ hw145_0; first | rwa [add_block] at this | exact this) GW137.out) | (rw [add_block]; exact Nat.ne_of_lt (Nat.lt_of_lt_of_le (by have := World.block_lt_of_cell? _ _ hw145_0; first | rwa [add_block] at this | exact this) GW137.out)) | (show (Addr.add _ _).block ≠ _; rw [add_block]; exact Nat.ne_of_lt (Nat.lt_of_lt_of_le (by have := World.block_lt_of_cell? _ _ hw145_0; first | rwa [add_block] at this | exact this) GW137.out)) | (dsimp only; exact Nat.ne_of_lt (Nat.lt_of_lt_of_le (by have := World.block_lt_of_cell? _ _ hw145_0; first | rwa [add_block] at this | exact this) GW137.out))) _).trans (((cell_far (p := ⟨gb137, _, none⟩) (by first | exact Nat.ne_of_lt (Nat.lt_of_lt_of_le (by have := World.block_lt_of_cell? _ _ hw145_0; first | rwa [add_block] at this | exact this) GW137.out) | (rw [add_block]; exact Nat.ne_of_lt (Nat.lt_of_lt_of_le (by have := World.block_lt_of_cell? _ _ hw145_0; first | rwa [add_block] at this | exact this) GW137.out)) | (show (Addr.add _ _).block ≠ _; rw [add_block]; exact Nat.ne_of_lt (Nat.lt_of_lt_of_le (by have := World.block_lt_of_cell? _ _ hw145_0; first | rwa [add_block] at this | exact this) GW137.out)) | (dsimp only; exact Nat.ne_of_lt (Nat.lt_of_lt_of_le (by have := World.block_lt_of_cell? _ _ hw145_0; first | rwa [add_block] at this | exact this) GW137.out))) _).trans (hHeld.2.2))))))⟩ (fun hHeld => ?_)
                                  clear hK K
                                  refine pure_ (i := 23) (N := some 3) (v := ?_) (a' := ?_) #[true, true, true, true, true, true, true, true, true, true, true, true, true, true, true, true, true, true, true, true, true, true, true, true, false] rfl rfl (any_of HT_.out (by kernel_rfl)) (fun _ _ _ h => h) (Or.inl ⟨by rfl, ?_⟩) ?_ ?_
                                  rotate_left
                                  · intro w'
                                    go_simp
                                    with_reducible rfl
                                  rotate_left
                                  · simp only [Act.put, List.setIfInBounds_toArray, List.set_cons_zero, List.set_cons_succ, i64_w, i32_w]
                                    rfl
                                  refine pure_ (i := 24) (N := some 4) (v := ?_) (a' := ?_) #[true, true, true, true, true, true, true, true, true, true, true, true, true, true, true, true, true, true, true, true, true, true, true, true, true] rfl rfl (any_of HT_.out (by kernel_rfl)) (fun _ _ _ h => h) (Or.inl ⟨by rfl, ?_⟩) ?_ ?_
                                  rotate_left
                                  · intro w'
                                    go_simp
                                    with_reducible rfl
                                  rotate_left
                                  · simp only [Act.put, List.setIfInBounds_toArray, List.set_cons_zero, List.set_cons_succ, i64_w, i32_w]
                                    rfl
                                  refine done_ (done_of HT_.out (by kernel_rfl)) ?_
                                  try go_wp2
                                  refine bodyPost_ret (results_ctt rfl _ _ gb137 26 #[.int .u16 (IntKind.u16.wrap ((IntKind.u16.wrap (256 * (IntKind.u16.wrap (rd l0 0)))) + (IntKind.u16.wrap (rd l0 1)))), .int .u8 (rd l0 6), .slice Ao35 y150.length co35] (0, 0) _ rfl (by (with_reducible repeat (first | refine blk_drewN ?_ _ | refine blk_drew ?_ | refine blk_alloc ?_ _)); refine blk_put (cs := #[.int .u16 (IntKind.u16.wrap ((IntKind.u16.wrap (256 * (IntKind.u16.wrap (rd l0 0)))) + (IntKind.u16.wrap (rd l0 1)))), .int .u8 (rd l0 6), .slice none 0 0]) ?_ 2 _ rfl; (with_reducible repeat (first | refine blk_drewN ?_ _ | refine blk_drew ?_ | refine blk_alloc ?_ _)); refine blk_put (cs := #[.int .u16 (IntKind.u16.wrap ((IntKind.u16.wrap (256 * (IntKind.u16.wrap (rd l0 0)))) + (IntKind.u16.wrap (rd l0 1)))), .int .u8 0, .slice none 0 0]) ?_ 1 _ rfl; (with_reducible repeat (first | refine blk_drewN ?_ _ | refine blk_drew ?_ | refine blk_alloc ?_ _)); refine blk_put (cs := #[.int .u16 0, .int .u8 0, .slice none 0 0]) ?_ 0 _ rfl; (with_reducible repeat (first | refine blk_drewN ?_ _ | refine blk_drew ?_ | refine blk_alloc ?_ _)); exact BK137.out) Try.underlying26 rfl (by kernel_rfl)) rfl ?_
                                  exact ⟨_, by first | rfl | (simp [errW_none, errW_some] <;> rfl) | (simp [*, errW_none, errW_some] <;> rfl), by (with_reducible repeat (first | apply Kd.R_alloc | apply Kd.R_drewN | apply Kd.R_drew)); exact Kd.R_mono (Kd.R_far (p := ⟨gb137, 2, none⟩) (Kd.R_far (p := ⟨gb137, 1, none⟩) (Kd.R_far (p := ⟨gb137, 0, none⟩) (Kd.R_types HO152.out BK137.out (by decide)) (fun _ hk => hk.2) (.int .u16 (IntKind.u16.wrap ((IntKind.u16.wrap (256 * (IntKind.u16.wrap (rd l0 0)))) + (IntKind.u16.wrap (rd l0 1)))))) (fun _ hk => hk.2) (.int .u8 (rd l0 6))) (fun _ hk => hk.2) (.slice Ao35 y150.length co35)) (fun _ hk => trivial), by repeat (first | (with_reducible first | exact HB.out | apply below_alloc | apply pw_below_drewN | apply below_drew1 | refine below_set ?_ GE137.out) | exact HB.out)⟩
                                · rw [if_neg c29] at H
                                  exact absurd H (by simp)
                              · rw [if_neg c28] at H
                                exact absurd H (by simp)
                            · rw [if_neg c27] at H
                              exact absurd H (by simp)
                          · rw [if_neg c26] at H
                            exact absurd H (by simp)
                        · rw [if_neg c25] at H
                          exact absurd H (by simp)
                      · rw [if_neg c24] at H
                        exact absurd H (by simp)
            · rw [if_neg c16] at H
              exact absurd H (by simp)
          · rw [if_neg c15] at H
            exact absurd H (by simp)

end Go.Proofs.Ytkmmkoiibcdmeaa.QD
