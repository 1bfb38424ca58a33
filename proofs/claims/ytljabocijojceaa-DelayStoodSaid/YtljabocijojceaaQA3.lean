-- Laid by wip/tools/pr.py (a program of this session's) over the kit's printer. Not trusted: Lean checks it.
import Derived.Test.YtljabocijojceaaQA0
import Derived.Test.YtljabocijojceaaQA1
import Derived.Test.YtljabocijojceaaQA2
namespace Go.Proofs.Ytljabocijojceaa.QA
open Go.RowKit Go.Proofs.YtljabocijojceaaW.PrintWords Go.Proofs.YtljabocijojceaaW.PrintLast Go.Proofs.YtljabocijojceaaW.PrintMore
attribute [local go_sem] max2_int min2_int max_two min_two max_three min_three max_four min_four   -- for this text's walks alone
set_option linter.unusedVariables false
set_option linter.unusedSimpArgs false

/-! ### watchkeeperlaw12_DelayPlays: function 3 -/
def watchkeeperlaw12_DelayPlays.l0 : Nat → List (S30) → Bool → Int → Int → Int → Bool → Int → Int → Int → Int → Bool → Bool → Int → Int → Option (Bool)
  | 0, _, _, _, _, _, _, _, _, _, _, _, _, _, _ => none
  | k + 1, x2, x7, x10, x189000, x189001, x189002, x189003, x189004, x196000, x196001, x196002, x196003, x196004, x196005 => if x10 < (x2.length : Int) then (if 0 ≤ x10 then ((delay_Delay_See.f x189000 x189001 x189002 x189003 x189004 ((rd_T30 x2 x10).f0) ((rd_T30 x2 x10).f1)).bind fun bt198 => ((watchkeeperref12_Delay_See.f k x196000 x196001 x196002 x196003 x196004 x196005 ((rd_T30 x2 x10).f0) ((rd_T30 x2 x10).f1)).bind fun bt206 => ((delay_Delay_Since.f bt198.2.1 bt198.2.2.1 bt198.2.2.2.1 bt198.2.2.2.2.1 bt198.2.2.2.2.2).bind fun bt213 => ((watchkeeperref12_Delay_Since.f bt206.2.1 bt206.2.2.1 bt206.2.2.2.1 bt206.2.2.2.2.1 bt206.2.2.2.2.2.1 bt206.2.2.2.2.2.2).bind fun bt220 => (if (bt198.1 != bt206.1) = true then (some false) else (if bt213.1 = bt220.1 then (if (bt213.2.1 != bt220.2.1) = true then (some false) else ((delay_Delay_Value.f bt213.2.2.1 bt213.2.2.2.1 bt213.2.2.2.2.1 bt213.2.2.2.2.2.1 bt213.2.2.2.2.2.2).bind fun bt228 => ((watchkeeperref12_Delay_Value.f bt220.2.2.1 bt220.2.2.2.1 bt220.2.2.2.2.1 bt220.2.2.2.2.2.1 bt220.2.2.2.2.2.2.1 bt220.2.2.2.2.2.2.2).bind fun bt234 => (if (bt228.1 != bt234.1) = true then (some false) else (watchkeeperlaw12_DelayPlays.l0 k x2 x7 (wrap64 (x10 + 1)) bt228.2.1 bt228.2.2.1 bt228.2.2.2.1 bt228.2.2.2.2.1 bt228.2.2.2.2.2 bt234.2.1 bt234.2.2.1 bt234.2.2.2.1 bt234.2.2.2.2.1 bt234.2.2.2.2.2.1 bt234.2.2.2.2.2.2))))) else (some false))))))) else (none)) else (some x7)
def watchkeeperlaw12_DelayPlays.f (k : Nat) (a0 : Int) (a1 : Int) (l2 : List (S30)) : Option (Bool) := (watchkeeperlaw12_head.f).bind fun t182 => ((delay_New.f a0 a1).bind fun bt183 => ((watchkeeperref12_New.f a0 a1).bind fun bt189 => (if (l2.length : Int) > 500 then (some t182) else (watchkeeperlaw12_DelayPlays.l0 k l2 t182 0 bt183.1 bt183.2.1 bt183.2.2.1 bt183.2.2.2.1 bt183.2.2.2.2 bt189.1 bt189.2.1 bt189.2.2.1 bt189.2.2.2.1 bt189.2.2.2.2.1 bt189.2.2.2.2.2))))
theorem watchkeeperlaw12_DelayPlays.mono_l : ∀ k, (∀ y0 y1 y2 y3 y4 y5 y6 y7 y8 y9 y10 y11 y12 y13, LeO (watchkeeperlaw12_DelayPlays.l0 k y0 y1 y2 y3 y4 y5 y6 y7 y8 y9 y10 y11 y12 y13) (watchkeeperlaw12_DelayPlays.l0 (k + 1) y0 y1 y2 y3 y4 y5 y6 y7 y8 y9 y10 y11 y12 y13))
  | 0 => fun _ _ _ _ _ _ _ _ _ _ _ _ _ _ r h => by simp [watchkeeperlaw12_DelayPlays.l0] at h
  | k + 1 => by
    have ih0 := watchkeeperlaw12_DelayPlays.mono_l k
    · intro y0 y1 y2 y3 y4 y5 y6 y7 y8 y9 y10 y11 y12 y13
      unfold watchkeeperlaw12_DelayPlays.l0
      repeat' first
      | (with_reducible exact ih0 _ _ _ _ _ _ _ _ _ _ _ _ _ _)
      | (with_reducible exact watchkeeperref12_Delay_See.mono _ _ _ _ _ _ _ _ _)
      | (with_reducible exact LeO.refl _)
      | (with_reducible exact LeO.none _)
      | (with_reducible refine LeO.ite ?_ ?_)
      | (with_reducible refine LeO.bind ?_ (fun _ => ?_))
      | exact ih0 _ _ _ _ _ _ _ _ _ _ _ _ _ _
      | exact watchkeeperref12_Delay_See.mono _ _ _ _ _ _ _ _ _
      | exact LeO.none _
      | refine LeO.ite ?_ ?_
      | refine LeO.bind ?_ (fun _ => ?_)
theorem watchkeeperlaw12_DelayPlays.mono : ∀ a0 a1 a2 k, LeO (watchkeeperlaw12_DelayPlays.f k a0 a1 a2) (watchkeeperlaw12_DelayPlays.f (k + 1) a0 a1 a2) := by
  intro a0 a1 a2 k
  have ih0 := watchkeeperlaw12_DelayPlays.mono_l k
  unfold watchkeeperlaw12_DelayPlays.f
  repeat' first
      | (with_reducible exact ih0 _ _ _ _ _ _ _ _ _ _ _ _ _ _)
      | (with_reducible exact watchkeeperref12_Delay_See.mono _ _ _ _ _ _ _ _ _)
      | (with_reducible exact LeO.refl _)
      | (with_reducible exact LeO.none _)
      | (with_reducible refine LeO.ite ?_ ?_)
      | (with_reducible refine LeO.bind ?_ (fun _ => ?_))
      | exact ih0 _ _ _ _ _ _ _ _ _ _ _ _ _ _
      | exact watchkeeperref12_Delay_See.mono _ _ _ _ _ _ _ _ _
      | exact LeO.none _
      | refine LeO.ite ?_ ?_
      | refine LeO.bind ?_ (fun _ => ?_)
def watchkeeperlaw12_DelayPlays.T9 : Bool × List (List Nat × List Nat) := (true, [([], []), ([], []), ([], []), ([1, 2], [1, 2]), ([3], [3]), ([4], [4]), ([], []), ([], []), ([6, 7], [6, 7]), ([8], [8]), ([9], [9]), ([0, 5, 10], [0, 5, 10]), ([11, 11, 0, 1, 2, 3, 4, 5, 6, 7, 8, 9, 10, 11], [11])])
def watchkeeperlaw12_DelayPlays.B9 : List Nat := [0, 0, 0, 6, 14, 30, 0, 0, 192, 448, 960, 2047, 4095]
theorem watchkeeperlaw12_DelayPlays.tab9 : rtab .any (opsOf Try.f3 9) = watchkeeperlaw12_DelayPlays.T9 := by kernel_rfl
theorem watchkeeperlaw12_DelayPlays.bits9 : waitsOk watchkeeperlaw12_DelayPlays.T9.2 watchkeeperlaw12_DelayPlays.B9 = true := by kernel_rfl
def watchkeeperlaw12_DelayPlays.T10 : Bool × List (List Nat × List Nat) := (true, [([], []), ([], []), ([], []), ([1, 2], [1, 2]), ([3], [3]), ([4], [4]), ([], []), ([], []), ([6, 7], [6, 7]), ([8], [8]), ([9], [9]), ([0, 5, 10], [0, 5, 10]), ([11, 11, 0, 1, 2, 3, 4, 5, 6, 7, 8, 9, 10, 11], [11])])
def watchkeeperlaw12_DelayPlays.B10 : List Nat := [0, 0, 0, 6, 14, 30, 0, 0, 192, 448, 960, 2047, 4095]
theorem watchkeeperlaw12_DelayPlays.tab10 : rtab .any (opsOf Try.f3 10) = watchkeeperlaw12_DelayPlays.T10 := by kernel_rfl
theorem watchkeeperlaw12_DelayPlays.bits10 : waitsOk watchkeeperlaw12_DelayPlays.T10.2 watchkeeperlaw12_DelayPlays.B10 = true := by kernel_rfl
set_option maxHeartbeats 8000000 in
set_option maxRecDepth 100000 in
theorem watchkeeperlaw12_DelayPlays.calls (k : Nat) (a0 : Int) (a1 : Int) (A2 : Option Addr) (c2 : Nat) (l2 : List (S30)) (r : Bool) (w : World) (hr2 : Kd.C k30 w A2 l2.length l2) (hc2 : l2.length ≤ c2) (h : watchkeeperlaw12_DelayPlays.f k a0 a1 l2 = some r) :
    Calls Try.prog 3 #[.int .i64 a0, .int .i64 a1, .slice A2 l2.length c2] w fun e w' => e = .returned (.bool r) ∧ Below w.heap.size w w' := by
  have HR2 := Aside0.mk hr2
  have HC2 := Aside0.mk hc2
  clear hr2 hc2
  have HB := Aside0.mk (Below.refl w.heap.size w)
  have H : ((watchkeeperlaw12_head.f).bind fun t182 => ((delay_New.f a0 a1).bind fun bt183 => ((watchkeeperref12_New.f a0 a1).bind fun bt189 => (if (l2.length : Int) > 500 then (some t182) else (watchkeeperlaw12_DelayPlays.l0 k l2 t182 0 bt183.1 bt183.2.1 bt183.2.2.1 bt183.2.2.2.1 bt183.2.2.2.2 bt189.1 bt189.2.1 bt189.2.2.1 bt189.2.2.2.1 bt189.2.2.2.2.1 bt189.2.2.2.2.2))))) = some r := h
  clear h
  replace H := Option.bind_eq_some_iff.mp H
  obtain ⟨t182, A40, H⟩ := H
  replace H : ((delay_New.f a0 a1).bind fun bt183 => ((watchkeeperref12_New.f a0 a1).bind fun bt189 => (if (l2.length : Int) > 500 then (some t182) else (watchkeeperlaw12_DelayPlays.l0 k l2 t182 0 bt183.1 bt183.2.1 bt183.2.2.1 bt183.2.2.2.1 bt183.2.2.2.2 bt189.1 bt189.2.1 bt189.2.2.1 bt189.2.2.2.1 bt189.2.2.2.2.1 bt189.2.2.2.2.2)))) = some r := H
  have A4 := Aside0.mk A40
  clear A40
  replace H := Option.bind_eq_some_iff.mp H
  obtain ⟨⟨t183, t184, t185, t186, t187⟩, A50, H⟩ := H
  replace H : ((watchkeeperref12_New.f a0 a1).bind fun bt189 => (if (l2.length : Int) > 500 then (some t182) else (watchkeeperlaw12_DelayPlays.l0 k l2 t182 0 t183 t184 t185 t186 t187 bt189.1 bt189.2.1 bt189.2.2.1 bt189.2.2.2.1 bt189.2.2.2.2.1 bt189.2.2.2.2.2))) = some r := H
  have A5 := Aside0.mk A50
  clear A50
  replace H := Option.bind_eq_some_iff.mp H
  obtain ⟨⟨t189, t190, t191, t192, t193, t194⟩, A60, H⟩ := H
  replace H : (if (l2.length : Int) > 500 then (some t182) else (watchkeeperlaw12_DelayPlays.l0 k l2 t182 0 t183 t184 t185 t186 t187 t189 t190 t191 t192 t193 t194)) = some r := H
  have A6 := Aside0.mk A60
  clear A60
  by_cases c7 : (l2.length : Int) > 500
  · rw [if_pos c7] at H
    have c7b0 : decide (500 < (l2.length : Int)) = true := decide_eq_true c7
    have c7b1 : decide (500 < l2.length) = true := decide_eq_true (by omega)
    clear c7
    obtain rfl := Option.some.inj H
    go_enter Try.func3, Try.ntmps3
    go_wp2_with (first | ((with_reducible refine gate_callee (f := 8) rfl ?_); refine goesL_ (some 17) rfl rfl Try.func8 (by kernel_rfl) rfl #[] rfl (by (try simp only [List.map_toArray, List.map_cons, List.map_nil]); first | done | rfl | (simp only [List.length_drop, List.length_take]; rfl)) ?_; (with_reducible refine (watchkeeperlaw12_head.calls  t182 _ A4.out).mono ?_); rintro e w8 ⟨rfl, hb⟩; refine ⟨_, rfl, ?_⟩; have n0_ := Aside0.mk (below_step (by repeat (first | (with_reducible first | exact HB.out | apply below_alloc | apply pw_below_drewN | apply below_drew1) | exact HB.out)) hb); clear HB; have HB := n0_; clear n0_; (try clear hb); (try clear hb2); (try clear hgn); (try clear hk); (try clear hi)) | ((with_reducible refine gate_callee (f := 9) rfl ?_); refine goesL_ (some 20) rfl rfl Try.func9 (by kernel_rfl) rfl #[.int .i64 a0, .int .i64 a1] rfl (by (try simp only [List.map_toArray, List.map_cons, List.map_nil]); first | done | rfl | (simp only [List.length_drop, List.length_take]; rfl)) ?_; (with_reducible refine (delay_New.calls a0 a1 t183 t184 t185 t186 t187 w _ ?side1 A5.out).mono ?_); (case side1 => repeat (first | (with_reducible first | exact HB.out | apply below_alloc | apply pw_below_drewN | apply below_drew1) | exact HB.out)); rintro e w9 ⟨g188, rfl, hi, hb, hb2, hgn⟩; refine ⟨_, rfl, ?_⟩; have n0_ := Aside0.mk (hb); have n1_ := Aside0.mk (hi); clear HB; have HB := n0_; have HI188 := n1_; clear n0_ n1_; (try clear hb); (try clear hb2); (try clear hgn); (try clear hk); (try clear hi)) | ((with_reducible refine gate_callee (f := 10) rfl ?_); refine goesL_ (some 23) rfl rfl Try.func10 (by kernel_rfl) rfl #[.int .i64 a0, .int .i64 a1] rfl (by (try simp only [List.map_toArray, List.map_cons, List.map_nil]); first | done | rfl | (simp only [List.length_drop, List.length_take]; rfl)) ?_; (with_reducible refine (watchkeeperref12_New.calls a0 a1 t189 t190 t191 t192 t193 t194 w _ ?side1 A6.out).mono ?_); (case side1 => repeat (first | (with_reducible first | exact HB.out | apply below_alloc | apply pw_below_drewN | apply below_drew1 | refine below_set ?_ (IsS44.ge HI188.out)) | exact HB.out)); rintro e w10 ⟨g195, rfl, hi, hb, hb2, hgn⟩; refine ⟨_, rfl, ?_⟩; have n0_ := Aside0.mk (IsS44.below (by repeat (first | (with_reducible first | exact HI188.out | apply IsS44.alloc | apply IsS44.drewN | apply IsS44.drew | apply IsS44.set_0 | apply IsS44.set_1 | apply IsS44.set_2 | apply IsS44.set_3 | apply IsS44.set_4) | exact HI188.out)) hb2); have n1_ := Aside0.mk (hb); have n2_ := Aside0.mk (hi); have n3_ := Aside0.mk ((Nat.ne_of_gt (Nat.lt_of_lt_of_le (IsS44.lt (show IsS44 w _ g188 t183 t184 t185 t186 t187 from by repeat (first | (with_reducible first | exact HI188.out | apply IsS44.alloc | apply IsS44.drewN | apply IsS44.drew | apply IsS44.set_0 | apply IsS44.set_1 | apply IsS44.set_2 | apply IsS44.set_3 | apply IsS44.set_4) | exact HI188.out))) hgn) : g195 ≠ g188)); have n4_ := Aside0.mk ((Nat.ne_of_lt (Nat.lt_of_lt_of_le (IsS44.lt (show IsS44 w _ g188 t183 t184 t185 t186 t187 from by repeat (first | (with_reducible first | exact HI188.out | apply IsS44.alloc | apply IsS44.drewN | apply IsS44.drew | apply IsS44.set_0 | apply IsS44.set_1 | apply IsS44.set_2 | apply IsS44.set_3 | apply IsS44.set_4) | exact HI188.out))) hgn) : g188 ≠ g195)); clear HI188; clear HB; have HI188 := n0_; have HB := n1_; have HI195 := n2_; have NS195_188 := n3_; have NS188_195 := n4_; clear n0_ n1_ n2_ n3_ n4_; (try clear hb); (try clear hb2); (try clear hgn); (try clear hk); (try clear hi)))
    go_ret
    exact ⟨by first | rfl | (simp [errW_none, errW_some] <;> rfl) | (simp [*, errW_none, errW_some] <;> rfl), by repeat (first | (with_reducible first | exact HB.out | apply below_alloc | apply pw_below_drewN | apply below_drew1 | refine below_set ?_ (IsS44.ge HI188.out) | refine below_set ?_ (IsS47.ge HI195.out)) | exact HB.out)⟩
  · rw [if_neg c7] at H
    have c7b0 : decide (500 < (l2.length : Int)) = false := decide_eq_false c7
    have c7b1 : decide (500 < l2.length) = false := decide_eq_false (by omega)
    clear c7
    have H' := Aside0.mk H
    clear H
    go_enter Try.func3, Try.ntmps3
    go_wp2_with (first | ((with_reducible refine gate_callee (f := 8) rfl ?_); refine goesL_ (some 17) rfl rfl Try.func8 (by kernel_rfl) rfl #[] rfl (by (try simp only [List.map_toArray, List.map_cons, List.map_nil]); first | done | rfl | (simp only [List.length_drop, List.length_take]; rfl)) ?_; (with_reducible refine (watchkeeperlaw12_head.calls  t182 _ A4.out).mono ?_); rintro e w11 ⟨rfl, hb⟩; refine ⟨_, rfl, ?_⟩; have n0_ := Aside0.mk (below_step (by repeat (first | (with_reducible first | exact HB.out | apply below_alloc | apply pw_below_drewN | apply below_drew1) | exact HB.out)) hb); clear HB; have HB := n0_; clear n0_; (try clear hb); (try clear hb2); (try clear hgn); (try clear hk); (try clear hi)) | ((with_reducible refine gate_callee (f := 9) rfl ?_); refine goesL_ (some 20) rfl rfl Try.func9 (by kernel_rfl) rfl #[.int .i64 a0, .int .i64 a1] rfl (by (try simp only [List.map_toArray, List.map_cons, List.map_nil]); first | done | rfl | (simp only [List.length_drop, List.length_take]; rfl)) ?_; (with_reducible refine (delay_New.calls a0 a1 t183 t184 t185 t186 t187 w _ ?side1 A5.out).mono ?_); (case side1 => repeat (first | (with_reducible first | exact HB.out | apply below_alloc | apply pw_below_drewN | apply below_drew1) | exact HB.out)); rintro e w12 ⟨g188, rfl, hi, hb, hb2, hgn⟩; refine ⟨_, rfl, ?_⟩; have n0_ := Aside0.mk (hb); have n1_ := Aside0.mk (hi); clear HB; have HB := n0_; have HI188 := n1_; clear n0_ n1_; (try clear hb); (try clear hb2); (try clear hgn); (try clear hk); (try clear hi)) | ((with_reducible refine gate_callee (f := 10) rfl ?_); refine goesL_ (some 23) rfl rfl Try.func10 (by kernel_rfl) rfl #[.int .i64 a0, .int .i64 a1] rfl (by (try simp only [List.map_toArray, List.map_cons, List.map_nil]); first | done | rfl | (simp only [List.length_drop, List.length_take]; rfl)) ?_; (with_reducible refine (watchkeeperref12_New.calls a0 a1 t189 t190 t191 t192 t193 t194 w _ ?side1 A6.out).mono ?_); (case side1 => repeat (first | (with_reducible first | exact HB.out | apply below_alloc | apply pw_below_drewN | apply below_drew1 | refine below_set ?_ (IsS44.ge HI188.out)) | exact HB.out)); rintro e w13 ⟨g195, rfl, hi, hb, hb2, hgn⟩; refine ⟨_, rfl, ?_⟩; have n0_ := Aside0.mk (IsS44.below (by repeat (first | (with_reducible first | exact HI188.out | apply IsS44.alloc | apply IsS44.drewN | apply IsS44.drew | apply IsS44.set_0 | apply IsS44.set_1 | apply IsS44.set_2 | apply IsS44.set_3 | apply IsS44.set_4) | exact HI188.out)) hb2); have n1_ := Aside0.mk (hb); have n2_ := Aside0.mk (hi); have n3_ := Aside0.mk ((Nat.ne_of_gt (Nat.lt_of_lt_of_le (IsS44.lt (show IsS44 w _ g188 t183 t184 t185 t186 t187 from by repeat (first | (with_reducible first | exact HI188.out | apply IsS44.alloc | apply IsS44.drewN | apply IsS44.drew | apply IsS44.set_0 | apply IsS44.set_1 | apply IsS44.set_2 | apply IsS44.set_3 | apply IsS44.set_4) | exact HI188.out))) hgn) : g195 ≠ g188)); have n4_ := Aside0.mk ((Nat.ne_of_lt (Nat.lt_of_lt_of_le (IsS44.lt (show IsS44 w _ g188 t183 t184 t185 t186 t187 from by repeat (first | (with_reducible first | exact HI188.out | apply IsS44.alloc | apply IsS44.drewN | apply IsS44.drew | apply IsS44.set_0 | apply IsS44.set_1 | apply IsS44.set_2 | apply IsS44.set_3 | apply IsS44.set_4) | exact HI188.out))) hgn) : g188 ≠ g195)); clear HI188; clear HB; have HI188 := n0_; have HB := n1_; have HI195 := n2_; have NS195_188 := n3_; have NS188_195 := n4_; clear n0_ n1_ n2_ n3_ n4_; (try clear hb); (try clear hb2); (try clear hgn); (try clear hk); (try clear hi)))
    go_loopg [10] k (fun kq v10 w' => ∃ (x10_1 : Int) (x189000_1 : Int) (x189001_1 : Int) (x189002_1 : Bool) (x189003_1 : Int) (x189004_1 : Int) (x196000_1 : Int) (x196001_1 : Int) (x196002_1 : Bool) (x196003_1 : Bool) (x196004_1 : Int) (x196005_1 : Int), v10 = .int .i64 x10_1 ∧ Aside0 (watchkeeperlaw12_DelayPlays.l0 kq l2 t182 x10_1 x189000_1 x189001_1 x189002_1 x189003_1 x189004_1 x196000_1 x196001_1 x196002_1 x196003_1 x196004_1 x196005_1 = some r) ∧ Aside0 (kq ≤ k) ∧ Aside0 (IsS44 w w' g188 x189000_1 x189001_1 x189002_1 x189003_1 x189004_1) ∧ Aside0 (IsS47 w w' g195 x196000_1 x196001_1 x196002_1 x196003_1 x196004_1 x196005_1) ∧ Aside0 (Below w.heap.size w w'))
    case atStart => exact ⟨(0), (t183), (t184), (t185), (t186), (t187), (t189), (t190), (t191), (t192), (t193), (t194), (by first | rfl | (simp; done) | (simp [*]; done)), H', ⟨Nat.le_refl _⟩, ⟨by repeat (first | (with_reducible first | exact HI188.out | apply IsS44.alloc | apply IsS44.drewN | apply IsS44.drew | apply IsS44.set_0 | apply IsS44.set_1 | apply IsS44.set_2 | apply IsS44.set_3 | apply IsS44.set_4) | exact HI188.out)⟩, ⟨by repeat (first | (with_reducible first | exact HI195.out | apply IsS47.alloc | apply IsS47.drewN | apply IsS47.drew | apply IsS47.set_0 | apply IsS47.set_1 | apply IsS47.set_2 | apply IsS47.set_3 | apply IsS47.set_4 | apply IsS47.set_5) | exact HI195.out)⟩, ⟨by repeat (first | (with_reducible first | exact HB.out | apply below_alloc | apply pw_below_drewN | apply below_drew1 | refine below_set ?_ (IsS44.ge HI188.out) | refine below_set ?_ (IsS47.ge HI195.out)) | exact HB.out)⟩⟩
    case round =>
      clear H'
      try clear c1
      try clear c2
      try clear p2
      try clear c3
      try clear c7
      try clear c7b0
      try clear c7b1
      try clear c8
      try clear c9
      try clear c10
      obtain ⟨x10_1, x189000_1, x189001_1, x189002_1, x189003_1, x189004_1, x196000_1, x196001_1, x196002_1, x196003_1, x196004_1, x196005_1, rfl, HA, HK1, HI188, HI195, HB⟩ := hrel
      cases gk with
      | zero => exact absurd HA.out (by simp [watchkeeperlaw12_DelayPlays.l0])
      | succ k1 =>
        have H := HA.out
        clear HA
        simp only [watchkeeperlaw12_DelayPlays.l0] at H
        by_cases c14 : x10_1 < (l2.length : Int)
        · rw [if_pos c14] at H
          have c14b0 : decide (x10_1 < (l2.length : Int)) = true := decide_eq_true c14
          clear c14
          by_cases c15 : 0 ≤ x10_1
          · rw [if_pos c15] at H
            have c15b0 : decide (0 ≤ x10_1) = true := decide_eq_true c15
            clear c15
            replace H := Option.bind_eq_some_iff.mp H
            obtain ⟨⟨t198, t199, t200, t201, t202, t203⟩, A160, H⟩ := H
            replace H : ((watchkeeperref12_Delay_See.f k1 x196000_1 x196001_1 x196002_1 x196003_1 x196004_1 x196005_1 ((rd_T30 l2 x10_1).f0) ((rd_T30 l2 x10_1).f1)).bind fun bt206 => ((delay_Delay_Since.f t199 t200 t201 t202 t203).bind fun bt213 => ((watchkeeperref12_Delay_Since.f bt206.2.1 bt206.2.2.1 bt206.2.2.2.1 bt206.2.2.2.2.1 bt206.2.2.2.2.2.1 bt206.2.2.2.2.2.2).bind fun bt220 => (if (t198 != bt206.1) = true then (some false) else (if bt213.1 = bt220.1 then (if (bt213.2.1 != bt220.2.1) = true then (some false) else ((delay_Delay_Value.f bt213.2.2.1 bt213.2.2.2.1 bt213.2.2.2.2.1 bt213.2.2.2.2.2.1 bt213.2.2.2.2.2.2).bind fun bt228 => ((watchkeeperref12_Delay_Value.f bt220.2.2.1 bt220.2.2.2.1 bt220.2.2.2.2.1 bt220.2.2.2.2.2.1 bt220.2.2.2.2.2.2.1 bt220.2.2.2.2.2.2.2).bind fun bt234 => (if (bt228.1 != bt234.1) = true then (some false) else (watchkeeperlaw12_DelayPlays.l0 k1 l2 t182 (wrap64 (x10_1 + 1)) bt228.2.1 bt228.2.2.1 bt228.2.2.2.1 bt228.2.2.2.2.1 bt228.2.2.2.2.2 bt234.2.1 bt234.2.2.1 bt234.2.2.2.1 bt234.2.2.2.2.1 bt234.2.2.2.2.2.1 bt234.2.2.2.2.2.2))))) else (some false)))))) = some r := H
            have A16 := Aside0.mk A160
            clear A160
            replace H := Option.bind_eq_some_iff.mp H
            obtain ⟨⟨t206, t207, t208, t209, t210, t211, t212⟩, A170, H⟩ := H
            replace H : ((delay_Delay_Since.f t199 t200 t201 t202 t203).bind fun bt213 => ((watchkeeperref12_Delay_Since.f t207 t208 t209 t210 t211 t212).bind fun bt220 => (if (t198 != t206) = true then (some false) else (if bt213.1 = bt220.1 then (if (bt213.2.1 != bt220.2.1) = true then (some false) else ((delay_Delay_Value.f bt213.2.2.1 bt213.2.2.2.1 bt213.2.2.2.2.1 bt213.2.2.2.2.2.1 bt213.2.2.2.2.2.2).bind fun bt228 => ((watchkeeperref12_Delay_Value.f bt220.2.2.1 bt220.2.2.2.1 bt220.2.2.2.2.1 bt220.2.2.2.2.2.1 bt220.2.2.2.2.2.2.1 bt220.2.2.2.2.2.2.2).bind fun bt234 => (if (bt228.1 != bt234.1) = true then (some false) else (watchkeeperlaw12_DelayPlays.l0 k1 l2 t182 (wrap64 (x10_1 + 1)) bt228.2.1 bt228.2.2.1 bt228.2.2.2.1 bt228.2.2.2.2.1 bt228.2.2.2.2.2 bt234.2.1 bt234.2.2.1 bt234.2.2.2.1 bt234.2.2.2.2.1 bt234.2.2.2.2.2.1 bt234.2.2.2.2.2.2))))) else (some false))))) = some r := H
            have A17 := Aside0.mk A170
            clear A170
            replace H := Option.bind_eq_some_iff.mp H
            obtain ⟨⟨t213, t214, t215, t216, t217, t218, t219⟩, A180, H⟩ := H
            replace H : ((watchkeeperref12_Delay_Since.f t207 t208 t209 t210 t211 t212).bind fun bt220 => (if (t198 != t206) = true then (some false) else (if t213 = bt220.1 then (if (t214 != bt220.2.1) = true then (some false) else ((delay_Delay_Value.f t215 t216 t217 t218 t219).bind fun bt228 => ((watchkeeperref12_Delay_Value.f bt220.2.2.1 bt220.2.2.2.1 bt220.2.2.2.2.1 bt220.2.2.2.2.2.1 bt220.2.2.2.2.2.2.1 bt220.2.2.2.2.2.2.2).bind fun bt234 => (if (bt228.1 != bt234.1) = true then (some false) else (watchkeeperlaw12_DelayPlays.l0 k1 l2 t182 (wrap64 (x10_1 + 1)) bt228.2.1 bt228.2.2.1 bt228.2.2.2.1 bt228.2.2.2.2.1 bt228.2.2.2.2.2 bt234.2.1 bt234.2.2.1 bt234.2.2.2.1 bt234.2.2.2.2.1 bt234.2.2.2.2.2.1 bt234.2.2.2.2.2.2))))) else (some false)))) = some r := H
            have A18 := Aside0.mk A180
            clear A180
            replace H := Option.bind_eq_some_iff.mp H
            obtain ⟨⟨t220, t221, t222, t223, t224, t225, t226, t227⟩, A190, H⟩ := H
            replace H : (if (t198 != t206) = true then (some false) else (if t213 = t220 then (if (t214 != t221) = true then (some false) else ((delay_Delay_Value.f t215 t216 t217 t218 t219).bind fun bt228 => ((watchkeeperref12_Delay_Value.f t222 t223 t224 t225 t226 t227).bind fun bt234 => (if (bt228.1 != bt234.1) = true then (some false) else (watchkeeperlaw12_DelayPlays.l0 k1 l2 t182 (wrap64 (x10_1 + 1)) bt228.2.1 bt228.2.2.1 bt228.2.2.2.1 bt228.2.2.2.2.1 bt228.2.2.2.2.2 bt234.2.1 bt234.2.2.1 bt234.2.2.2.1 bt234.2.2.2.2.1 bt234.2.2.2.2.2.1 bt234.2.2.2.2.2.2))))) else (some false))) = some r := H
            have A19 := Aside0.mk A190
            clear A190
            by_cases c20 : (t198 != t206) = true
            · rw [if_pos c20] at H
              have c20b0 : (t198 != t206) = true := c20
              (try (have c20b1 : decide (t198 = t206) = false := by simpa using c20))
              (try (have c20b2 : (t198 == t206) = false := by simpa using c20))
              (try (have c20b3 : ¬ (t198 = t206) := by simpa using c20))
              clear c20
              obtain rfl := Option.some.inj H
              try go_wp2
              have n0_ := Aside0.mk (IsS44.drew HI188.out)
              have n1_ := Aside0.mk (IsS47.drew HI195.out)
              have n2_ := Aside0.mk (below_drew1 HB.out)
              clear HI188
              clear HI195
              clear HB
              have HI188 := n0_
              have HI195 := n1_
              have HB := n2_
              clear n0_ n1_ n2_
              have p196 : 0 ≤ (x10_1 : Int) := of_decide_eq_true (by first | (with_reducible assumption) | assumption)
              have q196 : x10_1 < (l2.length : Int) := of_decide_eq_true (by first | (with_reducible assumption) | assumption)
              obtain ⟨ad196, e196, hx196_0, hx196_1⟩ := at_T30 HR2.out x10_1 p196 q196
              have hw196_1 := hx196_1
              have hw196_0 := hx196_0
              cases e196
              replace hx196_0 := (HB.out.cell (World.block_lt_of_cell? w _ hx196_0)).trans hx196_0
              replace hx196_1 := (HB.out.cell (World.block_lt_of_cell? w _ hx196_1)).trans hx196_1
              replace p196 := eq_true p196
              replace q196 := eq_true q196
              have p197 : 0 ≤ (x10_1 : Int) := of_decide_eq_true (by first | (with_reducible assumption) | assumption)
              have q197 : x10_1 < (l2.length : Int) := of_decide_eq_true (by first | (with_reducible assumption) | assumption)
              obtain ⟨ad197, e197, hx197_0, hx197_1⟩ := at_T30 HR2.out x10_1 p197 q197
              have hw197_1 := hx197_1
              have hw197_0 := hx197_0
              obtain rfl : ad196 = ad197 := (by injection e197)
              replace hx197_0 := (HB.out.cell (World.block_lt_of_cell? w _ hx197_0)).trans hx197_0
              replace hx197_1 := (HB.out.cell (World.block_lt_of_cell? w _ hx197_1)).trans hx197_1
              replace p197 := eq_true p197
              replace q197 := eq_true q197
              refine start_ (n := 13) (S := fun w' => w'.cell? (ad196.add ((x10_1).toNat * 2)) = some (.bool ((rd_T30 l2 x10_1).f0)) ∧ w'.cell? ⟨(ad196.add ((x10_1).toNat * 2)).block, (ad196.add ((x10_1).toNat * 2)).off + 1, none⟩ = some (.int .i64 ((rd_T30 l2 x10_1).f1)) ∧ w'.cell? (ad196.add ((x10_1).toNat * 2)) = some (.bool ((rd_T30 l2 x10_1).f0)) ∧ w'.cell? ⟨(ad196.add ((x10_1).toNat * 2)).block, (ad196.add ((x10_1).toNat * 2)).off + 1, none⟩ = some (.int .i64 ((rd_T30 l2 x10_1).f1))) (ds := []) #[false, false, false, false, false, false, false, false, false, false, false, false, false] (by kernel_rfl) rfl rfl ⟨((HB.out.cell (World.block_lt_of_cell? w _ hw196_0)).trans hw196_0), ((HB.out.cell (World.block_lt_of_cell? w _ hw196_1)).trans hw196_1), ((HB.out.cell (World.block_lt_of_cell? w _ hw197_0)).trans hw197_0), ((HB.out.cell (World.block_lt_of_cell? w _ hw197_1)).trans hw197_1)⟩ (fun hHeld => ?_); refine with_tabW watchkeeperlaw12_DelayPlays.tab9 watchkeeperlaw12_DelayPlays.bits9 (fun HT_ HW_ => ?_)
              generalize wr.drew = w21 at HI188 HI195 HB hx196_0 hx196_1 hx197_0 hx197_1 hHeld ⊢
              refine pure_ (i := 0) (N := some 42) (v := ?_) (a' := ?_) #[true, false, false, false, false, false, false, false, false, false, false, false, false] rfl rfl (any_of HT_.out (by kernel_rfl)) (fun _ _ _ h => h) (Or.inl ⟨by rfl, ?_⟩) ?_ ?_
              rotate_left
              · intro w'
                go_simp
                with_reducible rfl
              rotate_left
              · simp only [Act.put, List.setIfInBounds_toArray, List.set_cons_zero, List.set_cons_succ, i64_w, i32_w]
                rfl
              refine pure_ (i := 1) (N := some 43) (v := ?_) (a' := ?_) #[true, true, false, false, false, false, false, false, false, false, false, false, false] rfl rfl (any_of HT_.out (by kernel_rfl)) (fun _ _ _ h => h) (Or.inl ⟨by rfl, ?_⟩) ?_ ?_
              rotate_left
              · intro w'
                go_simp
                with_reducible rfl
              rotate_left
              · simp only [Act.put, List.setIfInBounds_toArray, List.set_cons_zero, List.set_cons_succ, i64_w, i32_w]
                rfl
              refine pure_ (i := 2) (N := some 44) (v := ?_) (a' := ?_) #[true, true, true, false, false, false, false, false, false, false, false, false, false] rfl rfl (any_of HT_.out (by kernel_rfl)) (fun _ _ _ h => h) (Or.inl ⟨by rfl, ?_⟩) ?_ ?_
              rotate_left
              · intro w'
                go_simp
                with_reducible rfl
              rotate_left
              · simp only [Act.put, List.setIfInBounds_toArray, List.set_cons_zero, List.set_cons_succ, i64_w, i32_w]
                rfl
              refine pure_ (i := 3) (N := some 45) (v := ?_) (a' := ?_) #[true, true, true, true, false, false, false, false, false, false, false, false, false] rfl rfl (any_of HT_.out (by kernel_rfl)) (fun _ _ _ h => h) (Or.inl ⟨by rfl, ?_⟩) ?_ ?_
              rotate_left
              · intro w'
                go_simp
                with_reducible rfl
              rotate_left
              · simp only [Act.put, List.setIfInBounds_toArray, List.set_cons_zero, List.set_cons_succ, i64_w, i32_w]
                rfl
              refine pure_ (i := 4) (N := some 46) (v := ?_) (a' := ?_) #[true, true, true, true, true, false, false, false, false, false, false, false, false] rfl rfl (any_of HT_.out (by kernel_rfl)) (fun _ _ _ h => h) (Or.inl ⟨by rfl, ?_⟩) ?_ ?_
              rotate_left
              · intro w'
                go_simp
                with_reducible rfl
              rotate_left
              · simp only [Act.put, List.setIfInBounds_toArray, List.set_cons_zero, List.set_cons_succ, i64_w, i32_w]
                rfl
              refine pure_ (i := 6) (N := some 48) (v := ?_) (a' := ?_) #[true, true, true, true, true, false, true, false, false, false, false, false, false] rfl rfl (any_of HT_.out (by kernel_rfl)) (fun _ _ _ h => h) (Or.inl ⟨by rfl, ?_⟩) ?_ ?_
              rotate_left
              · intro w'
                go_simp
                with_reducible rfl
              rotate_left
              · simp only [Act.put, List.setIfInBounds_toArray, List.set_cons_zero, List.set_cons_succ, i64_w, i32_w]
                rfl
              refine pure_ (i := 7) (N := some 49) (v := ?_) (a' := ?_) #[true, true, true, true, true, false, true, true, false, false, false, false, false] rfl rfl (any_of HT_.out (by kernel_rfl)) (fun _ _ _ h => h) (Or.inl ⟨by rfl, ?_⟩) ?_ ?_
              rotate_left
              · intro w'
                go_simp
                with_reducible rfl
              rotate_left
              · simp only [Act.put, List.setIfInBounds_toArray, List.set_cons_zero, List.set_cons_succ, i64_w, i32_w]
                rfl
              refine pure_ (i := 8) (N := some 50) (v := ?_) (a' := ?_) #[true, true, true, true, true, false, true, true, true, false, false, false, false] rfl rfl (any_of HT_.out (by kernel_rfl)) (fun _ _ _ h => h) (Or.inl ⟨by rfl, ?_⟩) ?_ ?_
              rotate_left
              · intro w'
                go_simp
                with_reducible rfl
              rotate_left
              · simp only [Act.put, List.setIfInBounds_toArray, List.set_cons_zero, List.set_cons_succ, i64_w, i32_w]
                rfl
              refine pure_ (i := 9) (N := some 51) (v := ?_) (a' := ?_) #[true, true, true, true, true, false, true, true, true, true, false, false, false] rfl rfl (any_of HT_.out (by kernel_rfl)) (fun _ _ _ h => h) (Or.inl ⟨by rfl, ?_⟩) ?_ ?_
              rotate_left
              · intro w'
                go_simp
                with_reducible rfl
              rotate_left
              · simp only [Act.put, List.setIfInBounds_toArray, List.set_cons_zero, List.set_cons_succ, i64_w, i32_w]
                rfl
              refine take_ (i := 5) (N := some 47) (v := ?_) (a' := ?_) #[true, true, true, true, true, true, true, true, true, true, false, false, false] rfl rfl (take_ofW HT_.out HW_.out (by kernel_rfl)) (fun _ _ _ h => h) (Or.inl ⟨by rfl, ?_⟩) hHeld ?_ ?_
              rotate_left
              · rintro w' ⟨s0, s1, s2, s3⟩
                go_simp
                with_reducible rfl
              rotate_left
              · simp only [Act.put, List.setIfInBounds_toArray, List.set_cons_zero, List.set_cons_succ, i64_w, i32_w]
                rfl
              refine take_ (i := 10) (N := some 52) (v := ?_) (a' := ?_) #[true, true, true, true, true, true, true, true, true, true, true, false, false] rfl rfl (take_ofW HT_.out HW_.out (by kernel_rfl)) (fun _ _ _ h => h) (Or.inl ⟨by rfl, ?_⟩) hHeld ?_ ?_
              rotate_left
              · rintro w' ⟨s0, s1, s2, s3⟩
                go_simp
                with_reducible rfl
              rotate_left
              · simp only [Act.put, List.setIfInBounds_toArray, List.set_cons_zero, List.set_cons_succ, i64_w, i32_w]
                rfl
              refine one_ (i := 11) (N := some 53) #[true, true, true, true, true, true, true, true, true, true, true, true, false] rfl rfl (one_of HT_.out (by kernel_rfl)) (by decide) (fun K hK => ?_)
              refine goes_ Try.func11 (by kernel_rfl) rfl #[.pointer (some ⟨g188, 0, none⟩), .bool ((rd_T30 l2 x10_1).f0), .int .i64 ((rd_T30 l2 x10_1).f1)] (by rfl) rfl rfl (by (try simp only [List.map_toArray, List.map_cons, List.map_nil]); first | done | rfl | (simp only [List.length_drop, List.length_take]; rfl)) ?_
              with_reducible refine (delay_Delay_See.calls g188 x189000_1 x189001_1 x189002_1 x189003_1 x189004_1 ((rd_T30 l2 x10_1).f0) ((rd_T30 l2 x10_1).f1) t198 t199 t200 t201 t202 t203 w _ ?side1 ?side2 A16.out).mono ?_
              (case side1 => repeat (first | (with_reducible first | exact HI188.out | apply IsS44.alloc | apply IsS44.drewN | apply IsS44.drew | apply IsS44.set_0 | apply IsS44.set_1 | apply IsS44.set_2 | apply IsS44.set_3 | apply IsS44.set_4) | exact HI188.out))
              (case side2 => repeat (first | (with_reducible first | exact HB.out | apply below_alloc | apply pw_below_drewN | apply below_drew1 | refine below_set ?_ (IsS44.ge HI188.out) | refine below_set ?_ (IsS47.ge HI195.out)) | exact HB.out))
              rintro e w22 ⟨rfl, hi, hb, hk⟩
              refine ⟨_, rfl, ?_⟩
              have n0_ := Aside0.mk (IsS47.keepg (show IsS47 w _ g195 x196000_1 x196001_1 x196002_1 x196003_1 x196004_1 x196005_1 from by repeat (first | (with_reducible first | exact HI195.out | apply IsS47.alloc | apply IsS47.drewN | apply IsS47.drew | apply IsS47.set_0 | apply IsS47.set_1 | apply IsS47.set_2 | apply IsS47.set_3 | apply IsS47.set_4 | apply IsS47.set_5) | exact HI195.out)) hk NS195_188.out)
              have n1_ := Aside0.mk (hb)
              have n2_ := Aside0.mk (hi)
              clear HI195
              clear HB
              clear HI188
              have HI195 := n0_
              have HB := n1_
              have HI188 := n2_
              clear n0_ n1_ n2_
              (try clear hb)
              (try clear hb2)
              (try clear hgn)
              (try clear hk)
              (try clear hi)
              refine hK.out _ _ ⟨((HB.out.cell (World.block_lt_of_cell? w _ hw196_0)).trans hw196_0), ((HB.out.cell (World.block_lt_of_cell? w _ hw196_1)).trans hw196_1), ((HB.out.cell (World.block_lt_of_cell? w _ hw197_0)).trans hw197_0), ((HB.out.cell (World.block_lt_of_cell? w _ hw197_1)).trans hw197_1)⟩ (fun hHeld => ?_)
              clear hK K
              refine norm_ (a' := ?_) ?_ ?_
              rotate_left
              · show Act.put _ (some 53) _ = _
                simp only [Act.put, List.setIfInBounds_toArray, List.set_cons_zero, List.set_cons_succ, i64_w, i32_w]
                rfl
              refine pure_ (i := 12) (N := some 11) (v := ?_) (a' := ?_) #[true, true, true, true, true, true, true, true, true, true, true, true, true] rfl rfl (any_of HT_.out (by kernel_rfl)) (fun _ _ _ h => h) (Or.inl ⟨by rfl, ?_⟩) ?_ ?_
              rotate_left
              · intro w'
                go_simp
                with_reducible rfl
              rotate_left
              · simp only [Act.put, List.setIfInBounds_toArray, List.set_cons_zero, List.set_cons_succ, i64_w, i32_w]
                rfl
              refine done_ (done_of HT_.out (by kernel_rfl)) ?_
              try go_wp2
              have n0_ := Aside0.mk (IsS44.drew HI188.out)
              have n1_ := Aside0.mk (IsS47.drew HI195.out)
              have n2_ := Aside0.mk (below_drew1 HB.out)
              clear HI188
              clear HI195
              clear HB
              have HI188 := n0_
              have HI195 := n1_
              have HB := n2_
              clear n0_ n1_ n2_
              have p204 : 0 ≤ (x10_1 : Int) := of_decide_eq_true (by first | (with_reducible assumption) | assumption)
              have q204 : x10_1 < (l2.length : Int) := of_decide_eq_true (by first | (with_reducible assumption) | assumption)
              obtain ⟨ad204, e204, hx204_0, hx204_1⟩ := at_T30 HR2.out x10_1 p204 q204
              have hw204_1 := hx204_1
              have hw204_0 := hx204_0
              obtain rfl : ad196 = ad204 := (by injection e204)
              replace hx204_0 := (HB.out.cell (World.block_lt_of_cell? w _ hx204_0)).trans hx204_0
              replace hx204_1 := (HB.out.cell (World.block_lt_of_cell? w _ hx204_1)).trans hx204_1
              replace p204 := eq_true p204
              replace q204 := eq_true q204
              have p205 : 0 ≤ (x10_1 : Int) := of_decide_eq_true (by first | (with_reducible assumption) | assumption)
              have q205 : x10_1 < (l2.length : Int) := of_decide_eq_true (by first | (with_reducible assumption) | assumption)
              obtain ⟨ad205, e205, hx205_0, hx205_1⟩ := at_T30 HR2.out x10_1 p205 q205
              have hw205_1 := hx205_1
              have hw205_0 := hx205_0
              obtain rfl : ad196 = ad205 := (by injection e205)
              replace hx205_0 := (HB.out.cell (World.block_lt_of_cell? w _ hx205_0)).trans hx205_0
              replace hx205_1 := (HB.out.cell (World.block_lt_of_cell? w _ hx205_1)).trans hx205_1
              replace p205 := eq_true p205
              replace q205 := eq_true q205
              refine start_ (n := 13) (S := fun w' => w'.cell? (ad196.add ((x10_1).toNat * 2)) = some (.bool ((rd_T30 l2 x10_1).f0)) ∧ w'.cell? ⟨(ad196.add ((x10_1).toNat * 2)).block, (ad196.add ((x10_1).toNat * 2)).off + 1, none⟩ = some (.int .i64 ((rd_T30 l2 x10_1).f1)) ∧ w'.cell? (ad196.add ((x10_1).toNat * 2)) = some (.bool ((rd_T30 l2 x10_1).f0)) ∧ w'.cell? ⟨(ad196.add ((x10_1).toNat * 2)).block, (ad196.add ((x10_1).toNat * 2)).off + 1, none⟩ = some (.int .i64 ((rd_T30 l2 x10_1).f1))) (ds := []) #[false, false, false, false, false, false, false, false, false, false, false, false, false] (by kernel_rfl) rfl rfl ⟨((HB.out.cell (World.block_lt_of_cell? w _ hw204_0)).trans hw204_0), ((HB.out.cell (World.block_lt_of_cell? w _ hw204_1)).trans hw204_1), ((HB.out.cell (World.block_lt_of_cell? w _ hw205_0)).trans hw205_0), ((HB.out.cell (World.block_lt_of_cell? w _ hw205_1)).trans hw205_1)⟩ (fun hHeld => ?_); refine with_tabW watchkeeperlaw12_DelayPlays.tab10 watchkeeperlaw12_DelayPlays.bits10 (fun HT_ HW_ => ?_)
              generalize w22.drew = w23 at HI188 HI195 HB hx204_0 hx204_1 hx205_0 hx205_1 hHeld ⊢
              refine pure_ (i := 0) (N := some 54) (v := ?_) (a' := ?_) #[true, false, false, false, false, false, false, false, false, false, false, false, false] rfl rfl (any_of HT_.out (by kernel_rfl)) (fun _ _ _ h => h) (Or.inl ⟨by rfl, ?_⟩) ?_ ?_
              rotate_left
              · intro w'
                go_simp
                with_reducible rfl
              rotate_left
              · simp only [Act.put, List.setIfInBounds_toArray, List.set_cons_zero, List.set_cons_succ, i64_w, i32_w]
                rfl
              refine pure_ (i := 1) (N := some 55) (v := ?_) (a' := ?_) #[true, true, false, false, false, false, false, false, false, false, false, false, false] rfl rfl (any_of HT_.out (by kernel_rfl)) (fun _ _ _ h => h) (Or.inl ⟨by rfl, ?_⟩) ?_ ?_
              rotate_left
              · intro w'
                go_simp
                with_reducible rfl
              rotate_left
              · simp only [Act.put, List.setIfInBounds_toArray, List.set_cons_zero, List.set_cons_succ, i64_w, i32_w]
                rfl
              refine pure_ (i := 2) (N := some 56) (v := ?_) (a' := ?_) #[true, true, true, false, false, false, false, false, false, false, false, false, false] rfl rfl (any_of HT_.out (by kernel_rfl)) (fun _ _ _ h => h) (Or.inl ⟨by rfl, ?_⟩) ?_ ?_
              rotate_left
              · intro w'
                go_simp
                with_reducible rfl
              rotate_left
              · simp only [Act.put, List.setIfInBounds_toArray, List.set_cons_zero, List.set_cons_succ, i64_w, i32_w]
                rfl
              refine pure_ (i := 3) (N := some 57) (v := ?_) (a' := ?_) #[true, true, true, true, false, false, false, false, false, false, false, false, false] rfl rfl (any_of HT_.out (by kernel_rfl)) (fun _ _ _ h => h) (Or.inl ⟨by rfl, ?_⟩) ?_ ?_
              rotate_left
              · intro w'
                go_simp
                with_reducible rfl
              rotate_left
              · simp only [Act.put, List.setIfInBounds_toArray, List.set_cons_zero, List.set_cons_succ, i64_w, i32_w]
                rfl
              refine pure_ (i := 4) (N := some 58) (v := ?_) (a' := ?_) #[true, true, true, true, true, false, false, false, false, false, false, false, false] rfl rfl (any_of HT_.out (by kernel_rfl)) (fun _ _ _ h => h) (Or.inl ⟨by rfl, ?_⟩) ?_ ?_
              rotate_left
              · intro w'
                go_simp
                with_reducible rfl
              rotate_left
              · simp only [Act.put, List.setIfInBounds_toArray, List.set_cons_zero, List.set_cons_succ, i64_w, i32_w]
                rfl
              refine pure_ (i := 6) (N := some 60) (v := ?_) (a' := ?_) #[true, true, true, true, true, false, true, false, false, false, false, false, false] rfl rfl (any_of HT_.out (by kernel_rfl)) (fun _ _ _ h => h) (Or.inl ⟨by rfl, ?_⟩) ?_ ?_
              rotate_left
              · intro w'
                go_simp
                with_reducible rfl
              rotate_left
              · simp only [Act.put, List.setIfInBounds_toArray, List.set_cons_zero, List.set_cons_succ, i64_w, i32_w]
                rfl
              refine pure_ (i := 7) (N := some 61) (v := ?_) (a' := ?_) #[true, true, true, true, true, false, true, true, false, false, false, false, false] rfl rfl (any_of HT_.out (by kernel_rfl)) (fun _ _ _ h => h) (Or.inl ⟨by rfl, ?_⟩) ?_ ?_
              rotate_left
              · intro w'
                go_simp
                with_reducible rfl
              rotate_left
              · simp only [Act.put, List.setIfInBounds_toArray, List.set_cons_zero, List.set_cons_succ, i64_w, i32_w]
                rfl
              refine pure_ (i := 8) (N := some 62) (v := ?_) (a' := ?_) #[true, true, true, true, true, false, true, true, true, false, false, false, false] rfl rfl (any_of HT_.out (by kernel_rfl)) (fun _ _ _ h => h) (Or.inl ⟨by rfl, ?_⟩) ?_ ?_
              rotate_left
              · intro w'
                go_simp
                with_reducible rfl
              rotate_left
              · simp only [Act.put, List.setIfInBounds_toArray, List.set_cons_zero, List.set_cons_succ, i64_w, i32_w]
                rfl
              refine pure_ (i := 9) (N := some 63) (v := ?_) (a' := ?_) #[true, true, true, true, true, false, true, true, true, true, false, false, false] rfl rfl (any_of HT_.out (by kernel_rfl)) (fun _ _ _ h => h) (Or.inl ⟨by rfl, ?_⟩) ?_ ?_
              rotate_left
              · intro w'
                go_simp
                with_reducible rfl
              rotate_left
              · simp only [Act.put, List.setIfInBounds_toArray, List.set_cons_zero, List.set_cons_succ, i64_w, i32_w]
                rfl
              refine take_ (i := 5) (N := some 59) (v := ?_) (a' := ?_) #[true, true, true, true, true, true, true, true, true, true, false, false, false] rfl rfl (take_ofW HT_.out HW_.out (by kernel_rfl)) (fun _ _ _ h => h) (Or.inl ⟨by rfl, ?_⟩) hHeld ?_ ?_
              rotate_left
              · rintro w' ⟨s0, s1, s2, s3⟩
                go_simp
                with_reducible rfl
              rotate_left
              · simp only [Act.put, List.setIfInBounds_toArray, List.set_cons_zero, List.set_cons_succ, i64_w, i32_w]
                rfl
              refine take_ (i := 10) (N := some 64) (v := ?_) (a' := ?_) #[true, true, true, true, true, true, true, true, true, true, true, false, false] rfl rfl (take_ofW HT_.out HW_.out (by kernel_rfl)) (fun _ _ _ h => h) (Or.inl ⟨by rfl, ?_⟩) hHeld ?_ ?_
              rotate_left
              · rintro w' ⟨s0, s1, s2, s3⟩
                go_simp
                with_reducible rfl
              rotate_left
              · simp only [Act.put, List.setIfInBounds_toArray, List.set_cons_zero, List.set_cons_succ, i64_w, i32_w]
                rfl
              refine one_ (i := 11) (N := some 65) #[true, true, true, true, true, true, true, true, true, true, true, true, false] rfl rfl (one_of HT_.out (by kernel_rfl)) (by decide) (fun K hK => ?_)
              refine goes_ Try.func12 (by kernel_rfl) rfl #[.pointer (some ⟨g195, 0, none⟩), .bool ((rd_T30 l2 x10_1).f0), .int .i64 ((rd_T30 l2 x10_1).f1)] (by rfl) rfl rfl (by (try simp only [List.map_toArray, List.map_cons, List.map_nil]); first | done | rfl | (simp only [List.length_drop, List.length_take]; rfl)) ?_
              with_reducible refine (watchkeeperref12_Delay_See.calls k1 g195 x196000_1 x196001_1 x196002_1 x196003_1 x196004_1 x196005_1 ((rd_T30 l2 x10_1).f0) ((rd_T30 l2 x10_1).f1) t206 t207 t208 t209 t210 t211 t212 w _ ?side1 ?side2 A17.out).mono ?_
              (case side1 => repeat (first | (with_reducible first | exact HI195.out | apply IsS47.alloc | apply IsS47.drewN | apply IsS47.drew | apply IsS47.set_0 | apply IsS47.set_1 | apply IsS47.set_2 | apply IsS47.set_3 | apply IsS47.set_4 | apply IsS47.set_5) | exact HI195.out))
              (case side2 => repeat (first | (with_reducible first | exact HB.out | apply below_alloc | apply pw_below_drewN | apply below_drew1 | refine below_set ?_ (IsS44.ge HI188.out) | refine below_set ?_ (IsS47.ge HI195.out)) | exact HB.out))
              rintro e w24 ⟨rfl, hi, hb, hk⟩
              refine ⟨_, rfl, ?_⟩
              have n0_ := Aside0.mk (IsS44.keepg (show IsS44 w _ g188 t199 t200 t201 t202 t203 from by repeat (first | (with_reducible first | exact HI188.out | apply IsS44.alloc | apply IsS44.drewN | apply IsS44.drew | apply IsS44.set_0 | apply IsS44.set_1 | apply IsS44.set_2 | apply IsS44.set_3 | apply IsS44.set_4) | exact HI188.out)) hk NS188_195.out)
              have n1_ := Aside0.mk (hb)
              have n2_ := Aside0.mk (hi)
              clear HI188
              clear HB
              clear HI195
              have HI188 := n0_
              have HB := n1_
              have HI195 := n2_
              clear n0_ n1_ n2_
              (try clear hb)
              (try clear hb2)
              (try clear hgn)
              (try clear hk)
              (try clear hi)
              refine hK.out _ _ ⟨((HB.out.cell (World.block_lt_of_cell? w _ hw204_0)).trans hw204_0), ((HB.out.cell (World.block_lt_of_cell? w _ hw204_1)).trans hw204_1), ((HB.out.cell (World.block_lt_of_cell? w _ hw205_0)).trans hw205_0), ((HB.out.cell (World.block_lt_of_cell? w _ hw205_1)).trans hw205_1)⟩ (fun hHeld => ?_)
              clear hK K
              refine norm_ (a' := ?_) ?_ ?_
              rotate_left
              · show Act.put _ (some 65) _ = _
                simp only [Act.put, List.setIfInBounds_toArray, List.set_cons_zero, List.set_cons_succ, i64_w, i32_w]
                rfl
              refine pure_ (i := 12) (N := some 12) (v := ?_) (a' := ?_) #[true, true, true, true, true, true, true, true, true, true, true, true, true] rfl rfl (any_of HT_.out (by kernel_rfl)) (fun _ _ _ h => h) (Or.inl ⟨by rfl, ?_⟩) ?_ ?_
              rotate_left
              · intro w'
                go_simp
                with_reducible rfl
              rotate_left
              · simp only [Act.put, List.setIfInBounds_toArray, List.set_cons_zero, List.set_cons_succ, i64_w, i32_w]
                rfl
              refine done_ (done_of HT_.out (by kernel_rfl)) ?_
              try go_wp2_with (first | ((with_reducible refine gate_callee (f := 13) rfl ?_); refine goesL_ (some 68) rfl rfl Try.func13 (by kernel_rfl) rfl #[.pointer (some ⟨g188, 0, none⟩)] rfl (by (try simp only [List.map_toArray, List.map_cons, List.map_nil]); first | done | rfl | (simp only [List.length_drop, List.length_take]; rfl)) ?_; (with_reducible refine (delay_Delay_Since.calls g188 t199 t200 t201 t202 t203 t213 t214 t215 t216 t217 t218 t219 w _ ?side1 ?side2 A18.out).mono ?_); (case side1 => repeat (first | (with_reducible first | exact HI188.out | apply IsS44.alloc | apply IsS44.drewN | apply IsS44.drew | apply IsS44.set_0 | apply IsS44.set_1 | apply IsS44.set_2 | apply IsS44.set_3 | apply IsS44.set_4) | exact HI188.out)); (case side2 => repeat (first | (with_reducible first | exact HB.out | apply below_alloc | apply pw_below_drewN | apply below_drew1 | refine below_set ?_ (IsS44.ge HI188.out) | refine below_set ?_ (IsS47.ge HI195.out)) | exact HB.out)); rintro e w25 ⟨rfl, hi, hb, hk⟩; refine ⟨_, rfl, ?_⟩; have n0_ := Aside0.mk (IsS47.keepg (show IsS47 w _ g195 t207 t208 t209 t210 t211 t212 from by repeat (first | (with_reducible first | exact HI195.out | apply IsS47.alloc | apply IsS47.drewN | apply IsS47.drew | apply IsS47.set_0 | apply IsS47.set_1 | apply IsS47.set_2 | apply IsS47.set_3 | apply IsS47.set_4 | apply IsS47.set_5) | exact HI195.out)) hk NS195_188.out); have n1_ := Aside0.mk (hb); have n2_ := Aside0.mk (hi); clear HI195; clear HB; clear HI188; have HI195 := n0_; have HB := n1_; have HI188 := n2_; clear n0_ n1_ n2_; (try clear hb); (try clear hb2); (try clear hgn); (try clear hk); (try clear hi)) | ((with_reducible refine gate_callee (f := 14) rfl ?_); refine goesL_ (some 73) rfl rfl Try.func14 (by kernel_rfl) rfl #[.pointer (some ⟨g195, 0, none⟩)] rfl (by (try simp only [List.map_toArray, List.map_cons, List.map_nil]); first | done | rfl | (simp only [List.length_drop, List.length_take]; rfl)) ?_; (with_reducible refine (watchkeeperref12_Delay_Since.calls g195 t207 t208 t209 t210 t211 t212 t220 t221 t222 t223 t224 t225 t226 t227 w _ ?side1 ?side2 A19.out).mono ?_); (case side1 => repeat (first | (with_reducible first | exact HI195.out | apply IsS47.alloc | apply IsS47.drewN | apply IsS47.drew | apply IsS47.set_0 | apply IsS47.set_1 | apply IsS47.set_2 | apply IsS47.set_3 | apply IsS47.set_4 | apply IsS47.set_5) | exact HI195.out)); (case side2 => repeat (first | (with_reducible first | exact HB.out | apply below_alloc | apply pw_below_drewN | apply below_drew1 | refine below_set ?_ (IsS44.ge HI188.out) | refine below_set ?_ (IsS47.ge HI195.out)) | exact HB.out)); rintro e w26 ⟨rfl, hi, hb, hk⟩; refine ⟨_, rfl, ?_⟩; have n0_ := Aside0.mk (IsS44.keepg (show IsS44 w _ g188 t215 t216 t217 t218 t219 from by repeat (first | (with_reducible first | exact HI188.out | apply IsS44.alloc | apply IsS44.drewN | apply IsS44.drew | apply IsS44.set_0 | apply IsS44.set_1 | apply IsS44.set_2 | apply IsS44.set_3 | apply IsS44.set_4) | exact HI188.out)) hk NS188_195.out); have n1_ := Aside0.mk (hb); have n2_ := Aside0.mk (hi); clear HI188; clear HB; clear HI195; have HI188 := n0_; have HB := n1_; have HI195 := n2_; clear n0_ n1_ n2_; (try clear hb); (try clear hb2); (try clear hgn); (try clear hk); (try clear hi)))
              go_ret
              exact ⟨by first | rfl | (simp [errW_none, errW_some] <;> rfl) | (simp [*, errW_none, errW_some] <;> rfl), by repeat (first | (with_reducible first | exact HB.out | apply below_alloc | apply pw_below_drewN | apply below_drew1 | refine below_set ?_ (IsS44.ge HI188.out) | refine below_set ?_ (IsS47.ge HI195.out)) | exact HB.out)⟩
            · rw [if_neg c20] at H
              have c20b0 : (t198 != t206) = false := by simpa using c20
              (try (have c20b1 : decide (t198 = t206) = true := by simpa using c20))
              (try (have c20b2 : (t198 == t206) = true := by simpa using c20))
              clear c20
              by_cases c27 : t213 = t220
              · rw [if_pos c27] at H
                have c27b0 : (t213 == t220) = true := beq_iff_eq.mpr c27
                have c27b1 : (t213 != t220) = false := bne_eq_false_iff_eq.mpr c27
                clear c27
                by_cases c28 : (t214 != t221) = true
                · rw [if_pos c28] at H
                  have c28b0 : (t214 != t221) = true := c28
                  (try (have c28b1 : decide (t214 = t221) = false := by simpa using c28))
                  (try (have c28b2 : (t214 == t221) = false := by simpa using c28))
                  (try (have c28b3 : ¬ (t214 = t221) := by simpa using c28))
                  clear c28
                  obtain rfl := Option.some.inj H
                  try go_wp2
                  have n0_ := Aside0.mk (IsS44.drew HI188.out)
                  have n1_ := Aside0.mk (IsS47.drew HI195.out)
                  have n2_ := Aside0.mk (below_drew1 HB.out)
                  clear HI188
                  clear HI195
                  clear HB
                  have HI188 := n0_
                  have HI195 := n1_
                  have HB := n2_
                  clear n0_ n1_ n2_
                  have p196 : 0 ≤ (x10_1 : Int) := of_decide_eq_true (by first | (with_reducible assumption) | assumption)
                  have q196 : x10_1 < (l2.length : Int) := of_decide_eq_true (by first | (with_reducible assumption) | assumption)
                  obtain ⟨ad196, e196, hx196_0, hx196_1⟩ := at_T30 HR2.out x10_1 p196 q196
                  have hw196_1 := hx196_1
                  have hw196_0 := hx196_0
                  cases e196
                  replace hx196_0 := (HB.out.cell (World.block_lt_of_cell? w _ hx196_0)).trans hx196_0
                  replace hx196_1 := (HB.out.cell (World.block_lt_of_cell? w _ hx196_1)).trans hx196_1
                  replace p196 := eq_true p196
                  replace q196 := eq_true q196
                  have p197 : 0 ≤ (x10_1 : Int) := of_decide_eq_true (by first | (with_reducible assumption) | assumption)
                  have q197 : x10_1 < (l2.length : Int) := of_decide_eq_true (by first | (with_reducible assumption) | assumption)
                  obtain ⟨ad197, e197, hx197_0, hx197_1⟩ := at_T30 HR2.out x10_1 p197 q197
                  have hw197_1 := hx197_1
                  have hw197_0 := hx197_0
                  obtain rfl : ad196 = ad197 := (by injection e197)
                  replace hx197_0 := (HB.out.cell (World.block_lt_of_cell? w _ hx197_0)).trans hx197_0
                  replace hx197_1 := (HB.out.cell (World.block_lt_of_cell? w _ hx197_1)).trans hx197_1
                  replace p197 := eq_true p197
                  replace q197 := eq_true q197
                  refine start_ (n := 13) (S := fun w' => w'.cell? (ad196.add ((x10_1).toNat * 2)) = some (.bool ((rd_T30 l2 x10_1).f0)) ∧ w'.cell? ⟨(ad196.add ((x10_1).toNat * 2)).block, (ad196.add ((x10_1).toNat * 2)).off + 1, none⟩ = some (.int .i64 ((rd_T30 l2 x10_1).f1)) ∧ w'.cell? (ad196.add ((x10_1).toNat * 2)) = some (.bool ((rd_T30 l2 x10_1).f0)) ∧ w'.cell? ⟨(ad196.add ((x10_1).toNat * 2)).block, (ad196.add ((x10_1).toNat * 2)).off + 1, none⟩ = some (.int .i64 ((rd_T30 l2 x10_1).f1))) (ds := []) #[false, false, false, false, false, false, false, false, false, false, false, false, false] (by kernel_rfl) rfl rfl ⟨((HB.out.cell (World.block_lt_of_cell? w _ hw196_0)).trans hw196_0), ((HB.out.cell (World.block_lt_of_cell? w _ hw196_1)).trans hw196_1), ((HB.out.cell (World.block_lt_of_cell? w _ hw197_0)).trans hw197_0), ((HB.out.cell (World.block_lt_of_cell? w _ hw197_1)).trans hw197_1)⟩ (fun hHeld => ?_); refine with_tabW watchkeeperlaw12_DelayPlays.tab9 watchkeeperlaw12_DelayPlays.bits9 (fun HT_ HW_ => ?_)
                  generalize wr.drew = w29 at HI188 HI195 HB hx196_0 hx196_1 hx197_0 hx197_1 hHeld ⊢
                  refine pure_ (i := 0) (N := some 42) (v := ?_) (a' := ?_) #[true, false, false, false, false, false, false, false, false, false, false, false, false] rfl rfl (any_of HT_.out (by kernel_rfl)) (fun _ _ _ h => h) (Or.inl ⟨by rfl, ?_⟩) ?_ ?_
                  rotate_left
                  · intro w'
                    go_simp
                    with_reducible rfl
                  rotate_left
                  · simp only [Act.put, List.setIfInBounds_toArray, List.set_cons_zero, List.set_cons_succ, i64_w, i32_w]
                    rfl
                  refine pure_ (i := 1) (N := some 43) (v := ?_) (a' := ?_) #[true, true, false, false, false, false, false, false, false, false, false, false, false] rfl rfl (any_of HT_.out (by kernel_rfl)) (fun _ _ _ h => h) (Or.inl ⟨by rfl, ?_⟩) ?_ ?_
                  rotate_left
                  · intro w'
                    go_simp
                    with_reducible rfl
                  rotate_left
                  · simp only [Act.put, List.setIfInBounds_toArray, List.set_cons_zero, List.set_cons_succ, i64_w, i32_w]
                    rfl
                  refine pure_ (i := 2) (N := some 44) (v := ?_) (a' := ?_) #[true, true, true, false, false, false, false, false, false, false, false, false, false] rfl rfl (any_of HT_.out (by kernel_rfl)) (fun _ _ _ h => h) (Or.inl ⟨by rfl, ?_⟩) ?_ ?_
                  rotate_left
                  · intro w'
                    go_simp
                    with_reducible rfl
                  rotate_left
                  · simp only [Act.put, List.setIfInBounds_toArray, List.set_cons_zero, List.set_cons_succ, i64_w, i32_w]
                    rfl
                  refine pure_ (i := 3) (N := some 45) (v := ?_) (a' := ?_) #[true, true, true, true, false, false, false, false, false, false, false, false, false] rfl rfl (any_of HT_.out (by kernel_rfl)) (fun _ _ _ h => h) (Or.inl ⟨by rfl, ?_⟩) ?_ ?_
                  rotate_left
                  · intro w'
                    go_simp
                    with_reducible rfl
                  rotate_left
                  · simp only [Act.put, List.setIfInBounds_toArray, List.set_cons_zero, List.set_cons_succ, i64_w, i32_w]
                    rfl
                  refine pure_ (i := 4) (N := some 46) (v := ?_) (a' := ?_) #[true, true, true, true, true, false, false, false, false, false, false, false, false] rfl rfl (any_of HT_.out (by kernel_rfl)) (fun _ _ _ h => h) (Or.inl ⟨by rfl, ?_⟩) ?_ ?_
                  rotate_left
                  · intro w'
                    go_simp
                    with_reducible rfl
                  rotate_left
                  · simp only [Act.put, List.setIfInBounds_toArray, List.set_cons_zero, List.set_cons_succ, i64_w, i32_w]
                    rfl
                  refine pure_ (i := 6) (N := some 48) (v := ?_) (a' := ?_) #[true, true, true, true, true, false, true, false, false, false, false, false, false] rfl rfl (any_of HT_.out (by kernel_rfl)) (fun _ _ _ h => h) (Or.inl ⟨by rfl, ?_⟩) ?_ ?_
                  rotate_left
                  · intro w'
                    go_simp
                    with_reducible rfl
                  rotate_left
                  · simp only [Act.put, List.setIfInBounds_toArray, List.set_cons_zero, List.set_cons_succ, i64_w, i32_w]
                    rfl
                  refine pure_ (i := 7) (N := some 49) (v := ?_) (a' := ?_) #[true, true, true, true, true, false, true, true, false, false, false, false, false] rfl rfl (any_of HT_.out (by kernel_rfl)) (fun _ _ _ h => h) (Or.inl ⟨by rfl, ?_⟩) ?_ ?_
                  rotate_left
                  · intro w'
                    go_simp
                    with_reducible rfl
                  rotate_left
                  · simp only [Act.put, List.setIfInBounds_toArray, List.set_cons_zero, List.set_cons_succ, i64_w, i32_w]
                    rfl
                  refine pure_ (i := 8) (N := some 50) (v := ?_) (a' := ?_) #[true, true, true, true, true, false, true, true, true, false, false, false, false] rfl rfl (any_of HT_.out (by kernel_rfl)) (fun _ _ _ h => h) (Or.inl ⟨by rfl, ?_⟩) ?_ ?_
                  rotate_left
                  · intro w'
                    go_simp
                    with_reducible rfl
                  rotate_left
                  · simp only [Act.put, List.setIfInBounds_toArray, List.set_cons_zero, List.set_cons_succ, i64_w, i32_w]
                    rfl
                  refine pure_ (i := 9) (N := some 51) (v := ?_) (a' := ?_) #[true, true, true, true, true, false, true, true, true, true, false, false, false] rfl rfl (any_of HT_.out (by kernel_rfl)) (fun _ _ _ h => h) (Or.inl ⟨by rfl, ?_⟩) ?_ ?_
                  rotate_left
                  · intro w'
                    go_simp
                    with_reducible rfl
                  rotate_left
                  · simp only [Act.put, List.setIfInBounds_toArray, List.set_cons_zero, List.set_cons_succ, i64_w, i32_w]
                    rfl
                  refine take_ (i := 5) (N := some 47) (v := ?_) (a' := ?_) #[true, true, true, true, true, true, true, true, true, true, false, false, false] rfl rfl (take_ofW HT_.out HW_.out (by kernel_rfl)) (fun _ _ _ h => h) (Or.inl ⟨by rfl, ?_⟩) hHeld ?_ ?_
                  rotate_left
                  · rintro w' ⟨s0, s1, s2, s3⟩
                    go_simp
                    with_reducible rfl
                  rotate_left
                  · simp only [Act.put, List.setIfInBounds_toArray, List.set_cons_zero, List.set_cons_succ, i64_w, i32_w]
                    rfl
                  refine take_ (i := 10) (N := some 52) (v := ?_) (a' := ?_) #[true, true, true, true, true, true, true, true, true, true, true, false, false] rfl rfl (take_ofW HT_.out HW_.out (by kernel_rfl)) (fun _ _ _ h => h) (Or.inl ⟨by rfl, ?_⟩) hHeld ?_ ?_
                  rotate_left
                  · rintro w' ⟨s0, s1, s2, s3⟩
                    go_simp
                    with_reducible rfl
                  rotate_left
                  · simp only [Act.put, List.setIfInBounds_toArray, List.set_cons_zero, List.set_cons_succ, i64_w, i32_w]
                    rfl
                  refine one_ (i := 11) (N := some 53) #[true, true, true, true, true, true, true, true, true, true, true, true, false] rfl rfl (one_of HT_.out (by kernel_rfl)) (by decide) (fun K hK => ?_)
                  refine goes_ Try.func11 (by kernel_rfl) rfl #[.pointer (some ⟨g188, 0, none⟩), .bool ((rd_T30 l2 x10_1).f0), .int .i64 ((rd_T30 l2 x10_1).f1)] (by rfl) rfl rfl (by (try simp only [List.map_toArray, List.map_cons, List.map_nil]); first | done | rfl | (simp only [List.length_drop, List.length_take]; rfl)) ?_
                  with_reducible refine (delay_Delay_See.calls g188 x189000_1 x189001_1 x189002_1 x189003_1 x189004_1 ((rd_T30 l2 x10_1).f0) ((rd_T30 l2 x10_1).f1) t198 t199 t200 t201 t202 t203 w _ ?side1 ?side2 A16.out).mono ?_
                  (case side1 => repeat (first | (with_reducible first | exact HI188.out | apply IsS44.alloc | apply IsS44.drewN | apply IsS44.drew | apply IsS44.set_0 | apply IsS44.set_1 | apply IsS44.set_2 | apply IsS44.set_3 | apply IsS44.set_4) | exact HI188.out))
                  (case side2 => repeat (first | (with_reducible first | exact HB.out | apply below_alloc | apply pw_below_drewN | apply below_drew1 | refine below_set ?_ (IsS44.ge HI188.out) | refine below_set ?_ (IsS47.ge HI195.out)) | exact HB.out))
                  rintro e w30 ⟨rfl, hi, hb, hk⟩
                  refine ⟨_, rfl, ?_⟩
                  have n0_ := Aside0.mk (IsS47.keepg (show IsS47 w _ g195 x196000_1 x196001_1 x196002_1 x196003_1 x196004_1 x196005_1 from by repeat (first | (with_reducible first | exact HI195.out | apply IsS47.alloc | apply IsS47.drewN | apply IsS47.drew | apply IsS47.set_0 | apply IsS47.set_1 | apply IsS47.set_2 | apply IsS47.set_3 | apply IsS47.set_4 | apply IsS47.set_5) | exact HI195.out)) hk NS195_188.out)
                  have n1_ := Aside0.mk (hb)
                  have n2_ := Aside0.mk (hi)
                  clear HI195
                  clear HB
                  clear HI188
                  have HI195 := n0_
                  have HB := n1_
                  have HI188 := n2_
                  clear n0_ n1_ n2_
                  (try clear hb)
                  (try clear hb2)
                  (try clear hgn)
                  (try clear hk)
                  (try clear hi)
                  refine hK.out _ _ ⟨((HB.out.cell (World.block_lt_of_cell? w _ hw196_0)).trans hw196_0), ((HB.out.cell (World.block_lt_of_cell? w _ hw196_1)).trans hw196_1), ((HB.out.cell (World.block_lt_of_cell? w _ hw197_0)).trans hw197_0), ((HB.out.cell (World.block_lt_of_cell? w _ hw197_1)).trans hw197_1)⟩ (fun hHeld => ?_)
                  clear hK K
                  refine norm_ (a' := ?_) ?_ ?_
                  rotate_left
                  · show Act.put _ (some 53) _ = _
                    simp only [Act.put, List.setIfInBounds_toArray, List.set_cons_zero, List.set_cons_succ, i64_w, i32_w]
                    rfl
                  refine pure_ (i := 12) (N := some 11) (v := ?_) (a' := ?_) #[true, true, true, true, true, true, true, true, true, true, true, true, true] rfl rfl (any_of HT_.out (by kernel_rfl)) (fun _ _ _ h => h) (Or.inl ⟨by rfl, ?_⟩) ?_ ?_
                  rotate_left
                  · intro w'
                    go_simp
                    with_reducible rfl
                  rotate_left
                  · simp only [Act.put, List.setIfInBounds_toArray, List.set_cons_zero, List.set_cons_succ, i64_w, i32_w]
                    rfl
                  refine done_ (done_of HT_.out (by kernel_rfl)) ?_
                  try go_wp2
                  have n0_ := Aside0.mk (IsS44.drew HI188.out)
                  have n1_ := Aside0.mk (IsS47.drew HI195.out)
                  have n2_ := Aside0.mk (below_drew1 HB.out)
                  clear HI188
                  clear HI195
                  clear HB
                  have HI188 := n0_
                  have HI195 := n1_
                  have HB := n2_
                  clear n0_ n1_ n2_
                  have p204 : 0 ≤ (x10_1 : Int) := of_decide_eq_true (by first | (with_reducible assumption) | assumption)
                  have q204 : x10_1 < (l2.length : Int) := of_decide_eq_true (by first | (with_reducible assumption) | assumption)
                  obtain ⟨ad204, e204, hx204_0, hx204_1⟩ := at_T30 HR2.out x10_1 p204 q204
                  have hw204_1 := hx204_1
                  have hw204_0 := hx204_0
                  obtain rfl : ad196 = ad204 := (by injection e204)
                  replace hx204_0 := (HB.out.cell (World.block_lt_of_cell? w _ hx204_0)).trans hx204_0
                  replace hx204_1 := (HB.out.cell (World.block_lt_of_cell? w _ hx204_1)).trans hx204_1
                  replace p204 := eq_true p204
                  replace q204 := eq_true q204
                  have p205 : 0 ≤ (x10_1 : Int) := of_decide_eq_true (by first | (with_reducible assumption) | assumption)
                  have q205 : x10_1 < (l2.length : Int) := of_decide_eq_true (by first | (with_reducible assumption) | assumption)
                  obtain ⟨ad205, e205, hx205_0, hx205_1⟩ := at_T30 HR2.out x10_1 p205 q205
                  have hw205_1 := hx205_1
                  have hw205_0 := hx205_0
                  obtain rfl : ad196 = ad205 := (by injection e205)
                  replace hx205_0 := (HB.out.cell (World.block_lt_of_cell? w _ hx205_0)).trans hx205_0
                  replace hx205_1 := (HB.out.cell (World.block_lt_of_cell? w _ hx205_1)).trans hx205_1
                  replace p205 := eq_true p205
                  replace q205 := eq_true q205
                  refine start_ (n := 13) (S := fun w' => w'.cell? (ad196.add ((x10_1).toNat * 2)) = some (.bool ((rd_T30 l2 x10_1).f0)) ∧ w'.cell? ⟨(ad196.add ((x10_1).toNat * 2)).block, (ad196.add ((x10_1).toNat * 2)).off + 1, none⟩ = some (.int .i64 ((rd_T30 l2 x10_1).f1)) ∧ w'.cell? (ad196.add ((x10_1).toNat * 2)) = some (.bool ((rd_T30 l2 x10_1).f0)) ∧ w'.cell? ⟨(ad196.add ((x10_1).toNat * 2)).block, (ad196.add ((x10_1).toNat * 2)).off + 1, none⟩ = some (.int .i64 ((rd_T30 l2 x10_1).f1))) (ds := []) #[false, false, false, false, false, false, false, false, false, false, false, false, false] (by kernel_rfl) rfl rfl ⟨((HB.out.cell (World.block_lt_of_cell? w _ hw204_0)).trans hw204_0), ((HB.out.cell (World.block_lt_of_cell? w _ hw204_1)).trans hw204_1), ((HB.out.cell (World.block_lt_of_cell? w _ hw205_0)).trans hw205_0), ((HB.out.cell (World.block_lt_of_cell? w _ hw205_1)).trans hw205_1)⟩ (fun hHeld => ?_); refine with_tabW watchkeeperlaw12_DelayPlays.tab10 watchkeeperlaw12_DelayPlays.bits10 (fun HT_ HW_ => ?_)
                  generalize w30.drew = w31 at HI188 HI195 HB hx204_0 hx204_1 hx205_0 hx205_1 hHeld ⊢
                  refine pure_ (i := 0) (N := some 54) (v := ?_) (a' := ?_) #[true, false, false, false, false, false, false, false, false, false, false, false, false] rfl rfl (any_of HT_.out (by kernel_rfl)) (fun _ _ _ h => h) (Or.inl ⟨by rfl, ?_⟩) ?_ ?_
                  rotate_left
                  · intro w'
                    go_simp
                    with_reducible rfl
                  rotate_left
                  · simp only [Act.put, List.setIfInBounds_toArray, List.set_cons_zero, List.set_cons_succ, i64_w, i32_w]
                    rfl
                  refine pure_ (i := 1) (N := some 55) (v := ?_) (a' := ?_) #[true, true, false, false, false, false, false, false, false, false, false, false, false] rfl rfl (any_of HT_.out (by kernel_rfl)) (fun _ _ _ h => h) (Or.inl ⟨by rfl, ?_⟩) ?_ ?_
                  rotate_left
                  · intro w'
                    go_simp
                    with_reducible rfl
                  rotate_left
                  · simp only [Act.put, List.setIfInBounds_toArray, List.set_cons_zero, List.set_cons_succ, i64_w, i32_w]
                    rfl
                  refine pure_ (i := 2) (N := some 56) (v := ?_) (a' := ?_) #[true, true, true, false, false, false, false, false, false, false, false, false, false] rfl rfl (any_of HT_.out (by kernel_rfl)) (fun _ _ _ h => h) (Or.inl ⟨by rfl, ?_⟩) ?_ ?_
                  rotate_left
                  · intro w'
                    go_simp
                    with_reducible rfl
                  rotate_left
                  · simp only [Act.put, List.setIfInBounds_toArray, List.set_cons_zero, List.set_cons_succ, i64_w, i32_w]
                    rfl
                  refine pure_ (i := 3) (N := some 57) (v := ?_) (a' := ?_) #[true, true, true, true, false, false, false, false, false, false, false, false, false] rfl rfl (any_of HT_.out (by kernel_rfl)) (fun _ _ _ h => h) (Or.inl ⟨by rfl, ?_⟩) ?_ ?_
                  rotate_left
                  · intro w'
                    go_simp
                    with_reducible rfl
                  rotate_left
                  · simp only [Act.put, List.setIfInBounds_toArray, List.set_cons_zero, List.set_cons_succ, i64_w, i32_w]
                    rfl
                  refine pure_ (i := 4) (N := some 58) (v := ?_) (a' := ?_) #[true, true, true, true, true, false, false, false, false, false, false, false, false] rfl rfl (any_of HT_.out (by kernel_rfl)) (fun _ _ _ h => h) (Or.inl ⟨by rfl, ?_⟩) ?_ ?_
                  rotate_left
                  · intro w'
                    go_simp
                    with_reducible rfl
                  rotate_left
                  · simp only [Act.put, List.setIfInBounds_toArray, List.set_cons_zero, List.set_cons_succ, i64_w, i32_w]
                    rfl
                  refine pure_ (i := 6) (N := some 60) (v := ?_) (a' := ?_) #[true, true, true, true, true, false, true, false, false, false, false, false, false] rfl rfl (any_of HT_.out (by kernel_rfl)) (fun _ _ _ h => h) (Or.inl ⟨by rfl, ?_⟩) ?_ ?_
                  rotate_left
                  · intro w'
                    go_simp
                    with_reducible rfl
                  rotate_left
                  · simp only [Act.put, List.setIfInBounds_toArray, List.set_cons_zero, List.set_cons_succ, i64_w, i32_w]
                    rfl
                  refine pure_ (i := 7) (N := some 61) (v := ?_) (a' := ?_) #[true, true, true, true, true, false, true, true, false, false, false, false, false] rfl rfl (any_of HT_.out (by kernel_rfl)) (fun _ _ _ h => h) (Or.inl ⟨by rfl, ?_⟩) ?_ ?_
                  rotate_left
                  · intro w'
                    go_simp
                    with_reducible rfl
                  rotate_left
                  · simp only [Act.put, List.setIfInBounds_toArray, List.set_cons_zero, List.set_cons_succ, i64_w, i32_w]
                    rfl
                  refine pure_ (i := 8) (N := some 62) (v := ?_) (a' := ?_) #[true, true, true, true, true, false, true, true, true, false, false, false, false] rfl rfl (any_of HT_.out (by kernel_rfl)) (fun _ _ _ h => h) (Or.inl ⟨by rfl, ?_⟩) ?_ ?_
                  rotate_left
                  · intro w'
                    go_simp
                    with_reducible rfl
                  rotate_left
                  · simp only [Act.put, List.setIfInBounds_toArray, List.set_cons_zero, List.set_cons_succ, i64_w, i32_w]
                    rfl
                  refine pure_ (i := 9) (N := some 63) (v := ?_) (a' := ?_) #[true, true, true, true, true, false, true, true, true, true, false, false, false] rfl rfl (any_of HT_.out (by kernel_rfl)) (fun _ _ _ h => h) (Or.inl ⟨by rfl, ?_⟩) ?_ ?_
                  rotate_left
                  · intro w'
                    go_simp
                    with_reducible rfl
                  rotate_left
                  · simp only [Act.put, List.setIfInBounds_toArray, List.set_cons_zero, List.set_cons_succ, i64_w, i32_w]
                    rfl
                  refine take_ (i := 5) (N := some 59) (v := ?_) (a' := ?_) #[true, true, true, true, true, true, true, true, true, true, false, false, false] rfl rfl (take_ofW HT_.out HW_.out (by kernel_rfl)) (fun _ _ _ h => h) (Or.inl ⟨by rfl, ?_⟩) hHeld ?_ ?_
                  rotate_left
                  · rintro w' ⟨s0, s1, s2, s3⟩
                    go_simp
                    with_reducible rfl
                  rotate_left
                  · simp only [Act.put, List.setIfInBounds_toArray, List.set_cons_zero, List.set_cons_succ, i64_w, i32_w]
                    rfl
                  refine take_ (i := 10) (N := some 64) (v := ?_) (a' := ?_) #[true, true, true, true, true, true, true, true, true, true, true, false, false] rfl rfl (take_ofW HT_.out HW_.out (by kernel_rfl)) (fun _ _ _ h => h) (Or.inl ⟨by rfl, ?_⟩) hHeld ?_ ?_
                  rotate_left
                  · rintro w' ⟨s0, s1, s2, s3⟩
                    go_simp
                    with_reducible rfl
                  rotate_left
                  · simp only [Act.put, List.setIfInBounds_toArray, List.set_cons_zero, List.set_cons_succ, i64_w, i32_w]
                    rfl
                  refine one_ (i := 11) (N := some 65) #[true, true, true, true, true, true, true, true, true, true, true, true, false] rfl rfl (one_of HT_.out (by kernel_rfl)) (by decide) (fun K hK => ?_)
                  refine goes_ Try.func12 (by kernel_rfl) rfl #[.pointer (some ⟨g195, 0, none⟩), .bool ((rd_T30 l2 x10_1).f0), .int .i64 ((rd_T30 l2 x10_1).f1)] (by rfl) rfl rfl (by (try simp only [List.map_toArray, List.map_cons, List.map_nil]); first | done | rfl | (simp only [List.length_drop, List.length_take]; rfl)) ?_
                  with_reducible refine (watchkeeperref12_Delay_See.calls k1 g195 x196000_1 x196001_1 x196002_1 x196003_1 x196004_1 x196005_1 ((rd_T30 l2 x10_1).f0) ((rd_T30 l2 x10_1).f1) t206 t207 t208 t209 t210 t211 t212 w _ ?side1 ?side2 A17.out).mono ?_
                  (case side1 => repeat (first | (with_reducible first | exact HI195.out | apply IsS47.alloc | apply IsS47.drewN | apply IsS47.drew | apply IsS47.set_0 | apply IsS47.set_1 | apply IsS47.set_2 | apply IsS47.set_3 | apply IsS47.set_4 | apply IsS47.set_5) | exact HI195.out))
                  (case side2 => repeat (first | (with_reducible first | exact HB.out | apply below_alloc | apply pw_below_drewN | apply below_drew1 | refine below_set ?_ (IsS44.ge HI188.out) | refine below_set ?_ (IsS47.ge HI195.out)) | exact HB.out))
                  rintro e w32 ⟨rfl, hi, hb, hk⟩
                  refine ⟨_, rfl, ?_⟩
                  have n0_ := Aside0.mk (IsS44.keepg (show IsS44 w _ g188 t199 t200 t201 t202 t203 from by repeat (first | (with_reducible first | exact HI188.out | apply IsS44.alloc | apply IsS44.drewN | apply IsS44.drew | apply IsS44.set_0 | apply IsS44.set_1 | apply IsS44.set_2 | apply IsS44.set_3 | apply IsS44.set_4) | exact HI188.out)) hk NS188_195.out)
                  have n1_ := Aside0.mk (hb)
                  have n2_ := Aside0.mk (hi)
                  clear HI188
                  clear HB
                  clear HI195
                  have HI188 := n0_
                  have HB := n1_
                  have HI195 := n2_
                  clear n0_ n1_ n2_
                  (try clear hb)
                  (try clear hb2)
                  (try clear hgn)
                  (try clear hk)
                  (try clear hi)
                  refine hK.out _ _ ⟨((HB.out.cell (World.block_lt_of_cell? w _ hw204_0)).trans hw204_0), ((HB.out.cell (World.block_lt_of_cell? w _ hw204_1)).trans hw204_1), ((HB.out.cell (World.block_lt_of_cell? w _ hw205_0)).trans hw205_0), ((HB.out.cell (World.block_lt_of_cell? w _ hw205_1)).trans hw205_1)⟩ (fun hHeld => ?_)
                  clear hK K
                  refine norm_ (a' := ?_) ?_ ?_
                  rotate_left
                  · show Act.put _ (some 65) _ = _
                    simp only [Act.put, List.setIfInBounds_toArray, List.set_cons_zero, List.set_cons_succ, i64_w, i32_w]
                    rfl
                  refine pure_ (i := 12) (N := some 12) (v := ?_) (a' := ?_) #[true, true, true, true, true, true, true, true, true, true, true, true, true] rfl rfl (any_of HT_.out (by kernel_rfl)) (fun _ _ _ h => h) (Or.inl ⟨by rfl, ?_⟩) ?_ ?_
                  rotate_left
                  · intro w'
                    go_simp
                    with_reducible rfl
                  rotate_left
                  · simp only [Act.put, List.setIfInBounds_toArray, List.set_cons_zero, List.set_cons_succ, i64_w, i32_w]
                    rfl
                  refine done_ (done_of HT_.out (by kernel_rfl)) ?_
                  try go_wp2_with (first | ((with_reducible refine gate_callee (f := 13) rfl ?_); refine goesL_ (some 68) rfl rfl Try.func13 (by kernel_rfl) rfl #[.pointer (some ⟨g188, 0, none⟩)] rfl (by (try simp only [List.map_toArray, List.map_cons, List.map_nil]); first | done | rfl | (simp only [List.length_drop, List.length_take]; rfl)) ?_; (with_reducible refine (delay_Delay_Since.calls g188 t199 t200 t201 t202 t203 t213 t214 t215 t216 t217 t218 t219 w _ ?side1 ?side2 A18.out).mono ?_); (case side1 => repeat (first | (with_reducible first | exact HI188.out | apply IsS44.alloc | apply IsS44.drewN | apply IsS44.drew | apply IsS44.set_0 | apply IsS44.set_1 | apply IsS44.set_2 | apply IsS44.set_3 | apply IsS44.set_4) | exact HI188.out)); (case side2 => repeat (first | (with_reducible first | exact HB.out | apply below_alloc | apply pw_below_drewN | apply below_drew1 | refine below_set ?_ (IsS44.ge HI188.out) | refine below_set ?_ (IsS47.ge HI195.out)) | exact HB.out)); rintro e w33 ⟨rfl, hi, hb, hk⟩; refine ⟨_, rfl, ?_⟩; have n0_ := Aside0.mk (IsS47.keepg (show IsS47 w _ g195 t207 t208 t209 t210 t211 t212 from by repeat (first | (with_reducible first | exact HI195.out | apply IsS47.alloc | apply IsS47.drewN | apply IsS47.drew | apply IsS47.set_0 | apply IsS47.set_1 | apply IsS47.set_2 | apply IsS47.set_3 | apply IsS47.set_4 | apply IsS47.set_5) | exact HI195.out)) hk NS195_188.out); have n1_ := Aside0.mk (hb); have n2_ := Aside0.mk (hi); clear HI195; clear HB; clear HI188; have HI195 := n0_; have HB := n1_; have HI188 := n2_; clear n0_ n1_ n2_; (try clear hb); (try clear hb2); (try clear hgn); (try clear hk); (try clear hi)) | ((with_reducible refine gate_callee (f := 14) rfl ?_); refine goesL_ (some 73) rfl rfl Try.func14 (by kernel_rfl) rfl #[.pointer (some ⟨g195, 0, none⟩)] rfl (by (try simp only [List.map_toArray, List.map_cons, List.map_nil]); first | done | rfl | (simp only [List.length_drop, List.length_take]; rfl)) ?_; (with_reducible refine (watchkeeperref12_Delay_Since.calls g195 t207 t208 t209 t210 t211 t212 t220 t221 t222 t223 t224 t225 t226 t227 w _ ?side1 ?side2 A19.out).mono ?_); (case side1 => repeat (first | (with_reducible first | exact HI195.out | apply IsS47.alloc | apply IsS47.drewN | apply IsS47.drew | apply IsS47.set_0 | apply IsS47.set_1 | apply IsS47.set_2 | apply IsS47.set_3 | apply IsS47.set_4 | apply IsS47.set_5) | exact HI195.out)); (case side2 => repeat (first | (with_reducible first | exact HB.out | apply below_alloc | apply pw_below_drewN | apply below_drew1 | refine below_set ?_ (IsS44.ge HI188.out) | refine below_set ?_ (IsS47.ge HI195.out)) | exact HB.out)); rintro e w34 ⟨rfl, hi, hb, hk⟩; refine ⟨_, rfl, ?_⟩; have n0_ := Aside0.mk (IsS44.keepg (show IsS44 w _ g188 t215 t216 t217 t218 t219 from by repeat (first | (with_reducible first | exact HI188.out | apply IsS44.alloc | apply IsS44.drewN | apply IsS44.drew | apply IsS44.set_0 | apply IsS44.set_1 | apply IsS44.set_2 | apply IsS44.set_3 | apply IsS44.set_4) | exact HI188.out)) hk NS188_195.out); have n1_ := Aside0.mk (hb); have n2_ := Aside0.mk (hi); clear HI188; clear HB; clear HI195; have HI188 := n0_; have HB := n1_; have HI195 := n2_; clear n0_ n1_ n2_; (try clear hb); (try clear hb2); (try clear hgn); (try clear hk); (try clear hi)))
                  go_ret
                  exact ⟨by first | rfl | (simp [errW_none, errW_some] <;> rfl) | (simp [*, errW_none, errW_some] <;> rfl), by repeat (first | (with_reducible first | exact HB.out | apply below_alloc | apply pw_below_drewN | apply below_drew1 | refine below_set ?_ (IsS44.ge HI188.out) | refine below_set ?_ (IsS47.ge HI195.out)) | exact HB.out)⟩
                · rw [if_neg c28] at H
                  have c28b0 : (t214 != t221) = false := by simpa using c28
                  (try (have c28b1 : decide (t214 = t221) = true := by simpa using c28))
                  (try (have c28b2 : (t214 == t221) = true := by simpa using c28))
                  clear c28
                  replace H := Option.bind_eq_some_iff.mp H
                  obtain ⟨⟨t228, t229, t230, t231, t232, t233⟩, A350, H⟩ := H
                  replace H : ((watchkeeperref12_Delay_Value.f t222 t223 t224 t225 t226 t227).bind fun bt234 => (if (t228 != bt234.1) = true then (some false) else (watchkeeperlaw12_DelayPlays.l0 k1 l2 t182 (wrap64 (x10_1 + 1)) t229 t230 t231 t232 t233 bt234.2.1 bt234.2.2.1 bt234.2.2.2.1 bt234.2.2.2.2.1 bt234.2.2.2.2.2.1 bt234.2.2.2.2.2.2))) = some r := H
                  have A35 := Aside0.mk A350
                  clear A350
                  replace H := Option.bind_eq_some_iff.mp H
                  obtain ⟨⟨t234, t235, t236, t237, t238, t239, t240⟩, A360, H⟩ := H
                  replace H : (if (t228 != t234) = true then (some false) else (watchkeeperlaw12_DelayPlays.l0 k1 l2 t182 (wrap64 (x10_1 + 1)) t229 t230 t231 t232 t233 t235 t236 t237 t238 t239 t240)) = some r := H
                  have A36 := Aside0.mk A360
                  clear A360
                  by_cases c37 : (t228 != t234) = true
                  · rw [if_pos c37] at H
                    have c37b0 : (t228 != t234) = true := c37
                    (try (have c37b1 : decide (t228 = t234) = false := by simpa using c37))
                    (try (have c37b2 : (t228 == t234) = false := by simpa using c37))
                    (try (have c37b3 : ¬ (t228 = t234) := by simpa using c37))
                    clear c37
                    obtain rfl := Option.some.inj H
                    try go_wp2
                    have n0_ := Aside0.mk (IsS44.drew HI188.out)
                    have n1_ := Aside0.mk (IsS47.drew HI195.out)
                    have n2_ := Aside0.mk (below_drew1 HB.out)
                    clear HI188
                    clear HI195
                    clear HB
                    have HI188 := n0_
                    have HI195 := n1_
                    have HB := n2_
                    clear n0_ n1_ n2_
                    have p196 : 0 ≤ (x10_1 : Int) := of_decide_eq_true (by first | (with_reducible assumption) | assumption)
                    have q196 : x10_1 < (l2.length : Int) := of_decide_eq_true (by first | (with_reducible assumption) | assumption)
                    obtain ⟨ad196, e196, hx196_0, hx196_1⟩ := at_T30 HR2.out x10_1 p196 q196
                    have hw196_1 := hx196_1
                    have hw196_0 := hx196_0
                    cases e196
                    replace hx196_0 := (HB.out.cell (World.block_lt_of_cell? w _ hx196_0)).trans hx196_0
                    replace hx196_1 := (HB.out.cell (World.block_lt_of_cell? w _ hx196_1)).trans hx196_1
                    replace p196 := eq_true p196
                    replace q196 := eq_true q196
                    have p197 : 0 ≤ (x10_1 : Int) := of_decide_eq_true (by first | (with_reducible assumption) | assumption)
                    have q197 : x10_1 < (l2.length : Int) := of_decide_eq_true (by first | (with_reducible assumption) | assumption)
                    obtain ⟨ad197, e197, hx197_0, hx197_1⟩ := at_T30 HR2.out x10_1 p197 q197
                    have hw197_1 := hx197_1
                    have hw197_0 := hx197_0
                    obtain rfl : ad196 = ad197 := (by injection e197)
                    replace hx197_0 := (HB.out.cell (World.block_lt_of_cell? w _ hx197_0)).trans hx197_0
                    replace hx197_1 := (HB.out.cell (World.block_lt_of_cell? w _ hx197_1)).trans hx197_1
                    replace p197 := eq_true p197
                    replace q197 := eq_true q197
                    refine start_ (n := 13) (S := fun w' => w'.cell? (ad196.add ((x10_1).toNat * 2)) = some (.bool ((rd_T30 l2 x10_1).f0)) ∧ w'.cell? ⟨(ad196.add ((x10_1).toNat * 2)).block, (ad196.add ((x10_1).toNat * 2)).off + 1, none⟩ = some (.int .i64 ((rd_T30 l2 x10_1).f1)) ∧ w'.cell? (ad196.add ((x10_1).toNat * 2)) = some (.bool ((rd_T30 l2 x10_1).f0)) ∧ w'.cell? ⟨(ad196.add ((x10_1).toNat * 2)).block, (ad196.add ((x10_1).toNat * 2)).off + 1, none⟩ = some (.int .i64 ((rd_T30 l2 x10_1).f1))) (ds := []) #[false, false, false, false, false, false, false, false, false, false, false, false, false] (by kernel_rfl) rfl rfl ⟨((HB.out.cell (World.block_lt_of_cell? w _ hw196_0)).trans hw196_0), ((HB.out.cell (World.block_lt_of_cell? w _ hw196_1)).trans hw196_1), ((HB.out.cell (World.block_lt_of_cell? w _ hw197_0)).trans hw197_0), ((HB.out.cell (World.block_lt_of_cell? w _ hw197_1)).trans hw197_1)⟩ (fun hHeld => ?_); refine with_tabW watchkeeperlaw12_DelayPlays.tab9 watchkeeperlaw12_DelayPlays.bits9 (fun HT_ HW_ => ?_)
                    generalize wr.drew = w38 at HI188 HI195 HB hx196_0 hx196_1 hx197_0 hx197_1 hHeld ⊢
                    refine pure_ (i := 0) (N := some 42) (v := ?_) (a' := ?_) #[true, false, false, false, false, false, false, false, false, false, false, false, false] rfl rfl (any_of HT_.out (by kernel_rfl)) (fun _ _ _ h => h) (Or.inl ⟨by rfl, ?_⟩) ?_ ?_
                    rotate_left
                    · intro w'
                      go_simp
                      with_reducible rfl
                    rotate_left
                    · simp only [Act.put, List.setIfInBounds_toArray, List.set_cons_zero, List.set_cons_succ, i64_w, i32_w]
                      rfl
                    refine pure_ (i := 1) (N := some 43) (v := ?_) (a' := ?_) #[true, true, false, false, false, false, false, false, false, false, false, false, false] rfl rfl (any_of HT_.out (by kernel_rfl)) (fun _ _ _ h => h) (Or.inl ⟨by rfl, ?_⟩) ?_ ?_
                    rotate_left
                    · intro w'
                      go_simp
                      with_reducible rfl
                    rotate_left
                    · simp only [Act.put, List.setIfInBounds_toArray, List.set_cons_zero, List.set_cons_succ, i64_w, i32_w]
                      rfl
                    refine pure_ (i := 2) (N := some 44) (v := ?_) (a' := ?_) #[true, true, true, false, false, false, false, false, false, false, false, false, false] rfl rfl (any_of HT_.out (by kernel_rfl)) (fun _ _ _ h => h) (Or.inl ⟨by rfl, ?_⟩) ?_ ?_
                    rotate_left
                    · intro w'
                      go_simp
                      with_reducible rfl
                    rotate_left
                    · simp only [Act.put, List.setIfInBounds_toArray, List.set_cons_zero, List.set_cons_succ, i64_w, i32_w]
                      rfl
                    refine pure_ (i := 3) (N := some 45) (v := ?_) (a' := ?_) #[true, true, true, true, false, false, false, false, false, false, false, false, false] rfl rfl (any_of HT_.out (by kernel_rfl)) (fun _ _ _ h => h) (Or.inl ⟨by rfl, ?_⟩) ?_ ?_
                    rotate_left
                    · intro w'
                      go_simp
                      with_reducible rfl
                    rotate_left
                    · simp only [Act.put, List.setIfInBounds_toArray, List.set_cons_zero, List.set_cons_succ, i64_w, i32_w]
                      rfl
                    refine pure_ (i := 4) (N := some 46) (v := ?_) (a' := ?_) #[true, true, true, true, true, false, false, false, false, false, false, false, false] rfl rfl (any_of HT_.out (by kernel_rfl)) (fun _ _ _ h => h) (Or.inl ⟨by rfl, ?_⟩) ?_ ?_
                    rotate_left
                    · intro w'
                      go_simp
                      with_reducible rfl
                    rotate_left
                    · simp only [Act.put, List.setIfInBounds_toArray, List.set_cons_zero, List.set_cons_succ, i64_w, i32_w]
                      rfl
                    refine pure_ (i := 6) (N := some 48) (v := ?_) (a' := ?_) #[true, true, true, true, true, false, true, false, false, false, false, false, false] rfl rfl (any_of HT_.out (by kernel_rfl)) (fun _ _ _ h => h) (Or.inl ⟨by rfl, ?_⟩) ?_ ?_
                    rotate_left
                    · intro w'
                      go_simp
                      with_reducible rfl
                    rotate_left
                    · simp only [Act.put, List.setIfInBounds_toArray, List.set_cons_zero, List.set_cons_succ, i64_w, i32_w]
                      rfl
                    refine pure_ (i := 7) (N := some 49) (v := ?_) (a' := ?_) #[true, true, true, true, true, false, true, true, false, false, false, false, false] rfl rfl (any_of HT_.out (by kernel_rfl)) (fun _ _ _ h => h) (Or.inl ⟨by rfl, ?_⟩) ?_ ?_
                    rotate_left
                    · intro w'
                      go_simp
                      with_reducible rfl
                    rotate_left
                    · simp only [Act.put, List.setIfInBounds_toArray, List.set_cons_zero, List.set_cons_succ, i64_w, i32_w]
                      rfl
                    refine pure_ (i := 8) (N := some 50) (v := ?_) (a' := ?_) #[true, true, true, true, true, false, true, true, true, false, false, false, false] rfl rfl (any_of HT_.out (by kernel_rfl)) (fun _ _ _ h => h) (Or.inl ⟨by rfl, ?_⟩) ?_ ?_
                    rotate_left
                    · intro w'
                      go_simp
                      with_reducible rfl
                    rotate_left
                    · simp only [Act.put, List.setIfInBounds_toArray, List.set_cons_zero, List.set_cons_succ, i64_w, i32_w]
                      rfl
                    refine pure_ (i := 9) (N := some 51) (v := ?_) (a' := ?_) #[true, true, true, true, true, false, true, true, true, true, false, false, false] rfl rfl (any_of HT_.out (by kernel_rfl)) (fun _ _ _ h => h) (Or.inl ⟨by rfl, ?_⟩) ?_ ?_
                    rotate_left
                    · intro w'
                      go_simp
                      with_reducible rfl
                    rotate_left
                    · simp only [Act.put, List.setIfInBounds_toArray, List.set_cons_zero, List.set_cons_succ, i64_w, i32_w]
                      rfl
                    refine take_ (i := 5) (N := some 47) (v := ?_) (a' := ?_) #[true, true, true, true, true, true, true, true, true, true, false, false, false] rfl rfl (take_ofW HT_.out HW_.out (by kernel_rfl)) (fun _ _ _ h => h) (Or.inl ⟨by rfl, ?_⟩) hHeld ?_ ?_
                    rotate_left
                    · rintro w' ⟨s0, s1, s2, s3⟩
                      go_simp
                      with_reducible rfl
                    rotate_left
                    · simp only [Act.put, List.setIfInBounds_toArray, List.set_cons_zero, List.set_cons_succ, i64_w, i32_w]
                      rfl
                    refine take_ (i := 10) (N := some 52) (v := ?_) (a' := ?_) #[true, true, true, true, true, true, true, true, true, true, true, false, false] rfl rfl (take_ofW HT_.out HW_.out (by kernel_rfl)) (fun _ _ _ h => h) (Or.inl ⟨by rfl, ?_⟩) hHeld ?_ ?_
                    rotate_left
                    · rintro w' ⟨s0, s1, s2, s3⟩
                      go_simp
                      with_reducible rfl
                    rotate_left
                    · simp only [Act.put, List.setIfInBounds_toArray, List.set_cons_zero, List.set_cons_succ, i64_w, i32_w]
                      rfl
                    refine one_ (i := 11) (N := some 53) #[true, true, true, true, true, true, true, true, true, true, true, true, false] rfl rfl (one_of HT_.out (by kernel_rfl)) (by decide) (fun K hK => ?_)
                    refine goes_ Try.func11 (by kernel_rfl) rfl #[.pointer (some ⟨g188, 0, none⟩), .bool ((rd_T30 l2 x10_1).f0), .int .i64 ((rd_T30 l2 x10_1).f1)] (by rfl) rfl rfl (by (try simp only [List.map_toArray, List.map_cons, List.map_nil]); first | done | rfl | (simp only [List.length_drop, List.length_take]; rfl)) ?_
                    with_reducible refine (delay_Delay_See.calls g188 x189000_1 x189001_1 x189002_1 x189003_1 x189004_1 ((rd_T30 l2 x10_1).f0) ((rd_T30 l2 x10_1).f1) t198 t199 t200 t201 t202 t203 w _ ?side1 ?side2 A16.out).mono ?_
                    (case side1 => repeat (first | (with_reducible first | exact HI188.out | apply IsS44.alloc | apply IsS44.drewN | apply IsS44.drew | apply IsS44.set_0 | apply IsS44.set_1 | apply IsS44.set_2 | apply IsS44.set_3 | apply IsS44.set_4) | exact HI188.out))
                    (case side2 => repeat (first | (with_reducible first | exact HB.out | apply below_alloc | apply pw_below_drewN | apply below_drew1 | refine below_set ?_ (IsS44.ge HI188.out) | refine below_set ?_ (IsS47.ge HI195.out)) | exact HB.out))
                    rintro e w39 ⟨rfl, hi, hb, hk⟩
                    refine ⟨_, rfl, ?_⟩
                    have n0_ := Aside0.mk (IsS47.keepg (show IsS47 w _ g195 x196000_1 x196001_1 x196002_1 x196003_1 x196004_1 x196005_1 from by repeat (first | (with_reducible first | exact HI195.out | apply IsS47.alloc | apply IsS47.drewN | apply IsS47.drew | apply IsS47.set_0 | apply IsS47.set_1 | apply IsS47.set_2 | apply IsS47.set_3 | apply IsS47.set_4 | apply IsS47.set_5) | exact HI195.out)) hk NS195_188.out)
                    have n1_ := Aside0.mk (hb)
                    have n2_ := Aside0.mk (hi)
                    clear HI195
                    clear HB
                    clear HI188
                    have HI195 := n0_
                    have HB := n1_
                    have HI188 := n2_
                    clear n0_ n1_ n2_
                    (try clear hb)
                    (try clear hb2)
                    (try clear hgn)
                    (try clear hk)
                    (try clear hi)
                    refine hK.out _ _ ⟨((HB.out.cell (World.block_lt_of_cell? w _ hw196_0)).trans hw196_0), ((HB.out.cell (World.block_lt_of_cell? w _ hw196_1)).trans hw196_1), ((HB.out.cell (World.block_lt_of_cell? w _ hw197_0)).trans hw197_0), ((HB.out.cell (World.block_lt_of_cell? w _ hw197_1)).trans hw197_1)⟩ (fun hHeld => ?_)
                    clear hK K
                    refine norm_ (a' := ?_) ?_ ?_
                    rotate_left
                    · show Act.put _ (some 53) _ = _
                      simp only [Act.put, List.setIfInBounds_toArray, List.set_cons_zero, List.set_cons_succ, i64_w, i32_w]
                      rfl
                    refine pure_ (i := 12) (N := some 11) (v := ?_) (a' := ?_) #[true, true, true, true, true, true, true, true, true, true, true, true, true] rfl rfl (any_of HT_.out (by kernel_rfl)) (fun _ _ _ h => h) (Or.inl ⟨by rfl, ?_⟩) ?_ ?_
                    rotate_left
                    · intro w'
                      go_simp
                      with_reducible rfl
                    rotate_left
                    · simp only [Act.put, List.setIfInBounds_toArray, List.set_cons_zero, List.set_cons_succ, i64_w, i32_w]
                      rfl
                    refine done_ (done_of HT_.out (by kernel_rfl)) ?_
                    try go_wp2
                    have n0_ := Aside0.mk (IsS44.drew HI188.out)
                    have n1_ := Aside0.mk (IsS47.drew HI195.out)
                    have n2_ := Aside0.mk (below_drew1 HB.out)
                    clear HI188
                    clear HI195
                    clear HB
                    have HI188 := n0_
                    have HI195 := n1_
                    have HB := n2_
                    clear n0_ n1_ n2_
                    have p204 : 0 ≤ (x10_1 : Int) := of_decide_eq_true (by first | (with_reducible assumption) | assumption)
                    have q204 : x10_1 < (l2.length : Int) := of_decide_eq_true (by first | (with_reducible assumption) | assumption)
                    obtain ⟨ad204, e204, hx204_0, hx204_1⟩ := at_T30 HR2.out x10_1 p204 q204
                    have hw204_1 := hx204_1
                    have hw204_0 := hx204_0
                    obtain rfl : ad196 = ad204 := (by injection e204)
                    replace hx204_0 := (HB.out.cell (World.block_lt_of_cell? w _ hx204_0)).trans hx204_0
                    replace hx204_1 := (HB.out.cell (World.block_lt_of_cell? w _ hx204_1)).trans hx204_1
                    replace p204 := eq_true p204
                    replace q204 := eq_true q204
                    have p205 : 0 ≤ (x10_1 : Int) := of_decide_eq_true (by first | (with_reducible assumption) | assumption)
                    have q205 : x10_1 < (l2.length : Int) := of_decide_eq_true (by first | (with_reducible assumption) | assumption)
                    obtain ⟨ad205, e205, hx205_0, hx205_1⟩ := at_T30 HR2.out x10_1 p205 q205
                    have hw205_1 := hx205_1
                    have hw205_0 := hx205_0
                    obtain rfl : ad196 = ad205 := (by injection e205)
                    replace hx205_0 := (HB.out.cell (World.block_lt_of_cell? w _ hx205_0)).trans hx205_0
                    replace hx205_1 := (HB.out.cell (World.block_lt_of_cell? w _ hx205_1)).trans hx205_1
                    replace p205 := eq_true p205
                    replace q205 := eq_true q205
                    refine start_ (n := 13) (S := fun w' => w'.cell? (ad196.add ((x10_1).toNat * 2)) = some (.bool ((rd_T30 l2 x10_1).f0)) ∧ w'.cell? ⟨(ad196.add ((x10_1).toNat * 2)).block, (ad196.add ((x10_1).toNat * 2)).off + 1, none⟩ = some (.int .i64 ((rd_T30 l2 x10_1).f1)) ∧ w'.cell? (ad196.add ((x10_1).toNat * 2)) = some (.bool ((rd_T30 l2 x10_1).f0)) ∧ w'.cell? ⟨(ad196.add ((x10_1).toNat * 2)).block, (ad196.add ((x10_1).toNat * 2)).off + 1, none⟩ = some (.int .i64 ((rd_T30 l2 x10_1).f1))) (ds := []) #[false, false, false, false, false, false, false, false, false, false, false, false, false] (by kernel_rfl) rfl rfl ⟨((HB.out.cell (World.block_lt_of_cell? w _ hw204_0)).trans hw204_0), ((HB.out.cell (World.block_lt_of_cell? w _ hw204_1)).trans hw204_1), ((HB.out.cell (World.block_lt_of_cell? w _ hw205_0)).trans hw205_0), ((HB.out.cell (World.block_lt_of_cell? w _ hw205_1)).trans hw205_1)⟩ (fun hHeld => ?_); refine with_tabW watchkeeperlaw12_DelayPlays.tab10 watchkeeperlaw12_DelayPlays.bits10 (fun HT_ HW_ => ?_)
                    generalize w39.drew = w40 at HI188 HI195 HB hx204_0 hx204_1 hx205_0 hx205_1 hHeld ⊢
                    refine pure_ (i := 0) (N := some 54) (v := ?_) (a' := ?_) #[true, false, false, false, false, false, false, false, false, false, false, false, false] rfl rfl (any_of HT_.out (by kernel_rfl)) (fun _ _ _ h => h) (Or.inl ⟨by rfl, ?_⟩) ?_ ?_
                    rotate_left
                    · intro w'
                      go_simp
                      with_reducible rfl
                    rotate_left
                    · simp only [Act.put, List.setIfInBounds_toArray, List.set_cons_zero, List.set_cons_succ, i64_w, i32_w]
                      rfl
                    refine pure_ (i := 1) (N := some 55) (v := ?_) (a' := ?_) #[true, true, false, false, false, false, false, false, false, false, false, false, false] rfl rfl (any_of HT_.out (by kernel_rfl)) (fun _ _ _ h => h) (Or.inl ⟨by rfl, ?_⟩) ?_ ?_
                    rotate_left
                    · intro w'
                      go_simp
                      with_reducible rfl
                    rotate_left
                    · simp only [Act.put, List.setIfInBounds_toArray, List.set_cons_zero, List.set_cons_succ, i64_w, i32_w]
                      rfl
                    refine pure_ (i := 2) (N := some 56) (v := ?_) (a' := ?_) #[true, true, true, false, false, false, false, false, false, false, false, false, false] rfl rfl (any_of HT_.out (by kernel_rfl)) (fun _ _ _ h => h) (Or.inl ⟨by rfl, ?_⟩) ?_ ?_
                    rotate_left
                    · intro w'
                      go_simp
                      with_reducible rfl
                    rotate_left
                    · simp only [Act.put, List.setIfInBounds_toArray, List.set_cons_zero, List.set_cons_succ, i64_w, i32_w]
                      rfl
                    refine pure_ (i := 3) (N := some 57) (v := ?_) (a' := ?_) #[true, true, true, true, false, false, false, false, false, false, false, false, false] rfl rfl (any_of HT_.out (by kernel_rfl)) (fun _ _ _ h => h) (Or.inl ⟨by rfl, ?_⟩) ?_ ?_
                    rotate_left
                    · intro w'
                      go_simp
                      with_reducible rfl
                    rotate_left
                    · simp only [Act.put, List.setIfInBounds_toArray, List.set_cons_zero, List.set_cons_succ, i64_w, i32_w]
                      rfl
                    refine pure_ (i := 4) (N := some 58) (v := ?_) (a' := ?_) #[true, true, true, true, true, false, false, false, false, false, false, false, false] rfl rfl (any_of HT_.out (by kernel_rfl)) (fun _ _ _ h => h) (Or.inl ⟨by rfl, ?_⟩) ?_ ?_
                    rotate_left
                    · intro w'
                      go_simp
                      with_reducible rfl
                    rotate_left
                    · simp only [Act.put, List.setIfInBounds_toArray, List.set_cons_zero, List.set_cons_succ, i64_w, i32_w]
                      rfl
                    refine pure_ (i := 6) (N := some 60) (v := ?_) (a' := ?_) #[true, true, true, true, true, false, true, false, false, false, false, false, false] rfl rfl (any_of HT_.out (by kernel_rfl)) (fun _ _ _ h => h) (Or.inl ⟨by rfl, ?_⟩) ?_ ?_
                    rotate_left
                    · intro w'
                      go_simp
                      with_reducible rfl
                    rotate_left
                    · simp only [Act.put, List.setIfInBounds_toArray, List.set_cons_zero, List.set_cons_succ, i64_w, i32_w]
                      rfl
                    refine pure_ (i := 7) (N := some 61) (v := ?_) (a' := ?_) #[true, true, true, true, true, false, true, true, false, false, false, false, false] rfl rfl (any_of HT_.out (by kernel_rfl)) (fun _ _ _ h => h) (Or.inl ⟨by rfl, ?_⟩) ?_ ?_
                    rotate_left
                    · intro w'
                      go_simp
                      with_reducible rfl
                    rotate_left
                    · simp only [Act.put, List.setIfInBounds_toArray, List.set_cons_zero, List.set_cons_succ, i64_w, i32_w]
                      rfl
                    refine pure_ (i := 8) (N := some 62) (v := ?_) (a' := ?_) #[true, true, true, true, true, false, true, true, true, false, false, false, false] rfl rfl (any_of HT_.out (by kernel_rfl)) (fun _ _ _ h => h) (Or.inl ⟨by rfl, ?_⟩) ?_ ?_
                    rotate_left
                    · intro w'
                      go_simp
                      with_reducible rfl
                    rotate_left
                    · simp only [Act.put, List.setIfInBounds_toArray, List.set_cons_zero, List.set_cons_succ, i64_w, i32_w]
                      rfl
                    refine pure_ (i := 9) (N := some 63) (v := ?_) (a' := ?_) #[true, true, true, true, true, false, true, true, true, true, false, false, false] rfl rfl (any_of HT_.out (by kernel_rfl)) (fun _ _ _ h => h) (Or.inl ⟨by rfl, ?_⟩) ?_ ?_
                    rotate_left
                    · intro w'
                      go_simp
                      with_reducible rfl
                    rotate_left
                    · simp only [Act.put, List.setIfInBounds_toArray, List.set_cons_zero, List.set_cons_succ, i64_w, i32_w]
                      rfl
                    refine take_ (i := 5) (N := some 59) (v := ?_) (a' := ?_) #[true, true, true, true, true, true, true, true, true, true, false, false, false] rfl rfl (take_ofW HT_.out HW_.out (by kernel_rfl)) (fun _ _ _ h => h) (Or.inl ⟨by rfl, ?_⟩) hHeld ?_ ?_
                    rotate_left
                    · rintro w' ⟨s0, s1, s2, s3⟩
                      go_simp
                      with_reducible rfl
                    rotate_left
                    · simp only [Act.put, List.setIfInBounds_toArray, List.set_cons_zero, List.set_cons_succ, i64_w, i32_w]
                      rfl
                    refine take_ (i := 10) (N := some 64) (v := ?_) (a' := ?_) #[true, true, true, true, true, true, true, true, true, true, true, false, false] rfl rfl (take_ofW HT_.out HW_.out (by kernel_rfl)) (fun _ _ _ h => h) (Or.inl ⟨by rfl, ?_⟩) hHeld ?_ ?_
                    rotate_left
                    · rintro w' ⟨s0, s1, s2, s3⟩
                      go_simp
                      with_reducible rfl
                    rotate_left
                    · simp only [Act.put, List.setIfInBounds_toArray, List.set_cons_zero, List.set_cons_succ, i64_w, i32_w]
                      rfl
                    refine one_ (i := 11) (N := some 65) #[true, true, true, true, true, true, true, true, true, true, true, true, false] rfl rfl (one_of HT_.out (by kernel_rfl)) (by decide) (fun K hK => ?_)
                    refine goes_ Try.func12 (by kernel_rfl) rfl #[.pointer (some ⟨g195, 0, none⟩), .bool ((rd_T30 l2 x10_1).f0), .int .i64 ((rd_T30 l2 x10_1).f1)] (by rfl) rfl rfl (by (try simp only [List.map_toArray, List.map_cons, List.map_nil]); first | done | rfl | (simp only [List.length_drop, List.length_take]; rfl)) ?_
                    with_reducible refine (watchkeeperref12_Delay_See.calls k1 g195 x196000_1 x196001_1 x196002_1 x196003_1 x196004_1 x196005_1 ((rd_T30 l2 x10_1).f0) ((rd_T30 l2 x10_1).f1) t206 t207 t208 t209 t210 t211 t212 w _ ?side1 ?side2 A17.out).mono ?_
                    (case side1 => repeat (first | (with_reducible first | exact HI195.out | apply IsS47.alloc | apply IsS47.drewN | apply IsS47.drew | apply IsS47.set_0 | apply IsS47.set_1 | apply IsS47.set_2 | apply IsS47.set_3 | apply IsS47.set_4 | apply IsS47.set_5) | exact HI195.out))
                    (case side2 => repeat (first | (with_reducible first | exact HB.out | apply below_alloc | apply pw_below_drewN | apply below_drew1 | refine below_set ?_ (IsS44.ge HI188.out) | refine below_set ?_ (IsS47.ge HI195.out)) | exact HB.out))
                    rintro e w41 ⟨rfl, hi, hb, hk⟩
                    refine ⟨_, rfl, ?_⟩
                    have n0_ := Aside0.mk (IsS44.keepg (show IsS44 w _ g188 t199 t200 t201 t202 t203 from by repeat (first | (with_reducible first | exact HI188.out | apply IsS44.alloc | apply IsS44.drewN | apply IsS44.drew | apply IsS44.set_0 | apply IsS44.set_1 | apply IsS44.set_2 | apply IsS44.set_3 | apply IsS44.set_4) | exact HI188.out)) hk NS188_195.out)
                    have n1_ := Aside0.mk (hb)
                    have n2_ := Aside0.mk (hi)
                    clear HI188
                    clear HB
                    clear HI195
                    have HI188 := n0_
                    have HB := n1_
                    have HI195 := n2_
                    clear n0_ n1_ n2_
                    (try clear hb)
                    (try clear hb2)
                    (try clear hgn)
                    (try clear hk)
                    (try clear hi)
                    refine hK.out _ _ ⟨((HB.out.cell (World.block_lt_of_cell? w _ hw204_0)).trans hw204_0), ((HB.out.cell (World.block_lt_of_cell? w _ hw204_1)).trans hw204_1), ((HB.out.cell (World.block_lt_of_cell? w _ hw205_0)).trans hw205_0), ((HB.out.cell (World.block_lt_of_cell? w _ hw205_1)).trans hw205_1)⟩ (fun hHeld => ?_)
                    clear hK K
                    refine norm_ (a' := ?_) ?_ ?_
                    rotate_left
                    · show Act.put _ (some 65) _ = _
                      simp only [Act.put, List.setIfInBounds_toArray, List.set_cons_zero, List.set_cons_succ, i64_w, i32_w]
                      rfl
                    refine pure_ (i := 12) (N := some 12) (v := ?_) (a' := ?_) #[true, true, true, true, true, true, true, true, true, true, true, true, true] rfl rfl (any_of HT_.out (by kernel_rfl)) (fun _ _ _ h => h) (Or.inl ⟨by rfl, ?_⟩) ?_ ?_
                    rotate_left
                    · intro w'
                      go_simp
                      with_reducible rfl
                    rotate_left
                    · simp only [Act.put, List.setIfInBounds_toArray, List.set_cons_zero, List.set_cons_succ, i64_w, i32_w]
                      rfl
                    refine done_ (done_of HT_.out (by kernel_rfl)) ?_
                    try go_wp2_with (first | ((with_reducible refine gate_callee (f := 13) rfl ?_); refine goesL_ (some 68) rfl rfl Try.func13 (by kernel_rfl) rfl #[.pointer (some ⟨g188, 0, none⟩)] rfl (by (try simp only [List.map_toArray, List.map_cons, List.map_nil]); first | done | rfl | (simp only [List.length_drop, List.length_take]; rfl)) ?_; (with_reducible refine (delay_Delay_Since.calls g188 t199 t200 t201 t202 t203 t213 t214 t215 t216 t217 t218 t219 w _ ?side1 ?side2 A18.out).mono ?_); (case side1 => repeat (first | (with_reducible first | exact HI188.out | apply IsS44.alloc | apply IsS44.drewN | apply IsS44.drew | apply IsS44.set_0 | apply IsS44.set_1 | apply IsS44.set_2 | apply IsS44.set_3 | apply IsS44.set_4) | exact HI188.out)); (case side2 => repeat (first | (with_reducible first | exact HB.out | apply below_alloc | apply pw_below_drewN | apply below_drew1 | refine below_set ?_ (IsS44.ge HI188.out) | refine below_set ?_ (IsS47.ge HI195.out)) | exact HB.out)); rintro e w42 ⟨rfl, hi, hb, hk⟩; refine ⟨_, rfl, ?_⟩; have n0_ := Aside0.mk (IsS47.keepg (show IsS47 w _ g195 t207 t208 t209 t210 t211 t212 from by repeat (first | (with_reducible first | exact HI195.out | apply IsS47.alloc | apply IsS47.drewN | apply IsS47.drew | apply IsS47.set_0 | apply IsS47.set_1 | apply IsS47.set_2 | apply IsS47.set_3 | apply IsS47.set_4 | apply IsS47.set_5) | exact HI195.out)) hk NS195_188.out); have n1_ := Aside0.mk (hb); have n2_ := Aside0.mk (hi); clear HI195; clear HB; clear HI188; have HI195 := n0_; have HB := n1_; have HI188 := n2_; clear n0_ n1_ n2_; (try clear hb); (try clear hb2); (try clear hgn); (try clear hk); (try clear hi)) | ((with_reducible refine gate_callee (f := 14) rfl ?_); refine goesL_ (some 73) rfl rfl Try.func14 (by kernel_rfl) rfl #[.pointer (some ⟨g195, 0, none⟩)] rfl (by (try simp only [List.map_toArray, List.map_cons, List.map_nil]); first | done | rfl | (simp only [List.length_drop, List.length_take]; rfl)) ?_; (with_reducible refine (watchkeeperref12_Delay_Since.calls g195 t207 t208 t209 t210 t211 t212 t220 t221 t222 t223 t224 t225 t226 t227 w _ ?side1 ?side2 A19.out).mono ?_); (case side1 => repeat (first | (with_reducible first | exact HI195.out | apply IsS47.alloc | apply IsS47.drewN | apply IsS47.drew | apply IsS47.set_0 | apply IsS47.set_1 | apply IsS47.set_2 | apply IsS47.set_3 | apply IsS47.set_4 | apply IsS47.set_5) | exact HI195.out)); (case side2 => repeat (first | (with_reducible first | exact HB.out | apply below_alloc | apply pw_below_drewN | apply below_drew1 | refine below_set ?_ (IsS44.ge HI188.out) | refine below_set ?_ (IsS47.ge HI195.out)) | exact HB.out)); rintro e w43 ⟨rfl, hi, hb, hk⟩; refine ⟨_, rfl, ?_⟩; have n0_ := Aside0.mk (IsS44.keepg (show IsS44 w _ g188 t215 t216 t217 t218 t219 from by repeat (first | (with_reducible first | exact HI188.out | apply IsS44.alloc | apply IsS44.drewN | apply IsS44.drew | apply IsS44.set_0 | apply IsS44.set_1 | apply IsS44.set_2 | apply IsS44.set_3 | apply IsS44.set_4) | exact HI188.out)) hk NS188_195.out); have n1_ := Aside0.mk (hb); have n2_ := Aside0.mk (hi); clear HI188; clear HB; clear HI195; have HI188 := n0_; have HB := n1_; have HI195 := n2_; clear n0_ n1_ n2_; (try clear hb); (try clear hb2); (try clear hgn); (try clear hk); (try clear hi)) | (go_at_call 15; (with_reducible refine (delay_Delay_Value.calls g188 t215 t216 t217 t218 t219 t228 t229 t230 t231 t232 t233 w _ ?side1 ?side2 A35.out).mono ?_); (case side1 => repeat (first | (with_reducible first | exact HI188.out | apply IsS44.alloc | apply IsS44.drewN | apply IsS44.drew | apply IsS44.set_0 | apply IsS44.set_1 | apply IsS44.set_2 | apply IsS44.set_3 | apply IsS44.set_4) | exact HI188.out)); (case side2 => repeat (first | (with_reducible first | exact HB.out | apply below_alloc | apply pw_below_drewN | apply below_drew1 | refine below_set ?_ (IsS44.ge HI188.out) | refine below_set ?_ (IsS47.ge HI195.out)) | exact HB.out)); rintro e w44 ⟨rfl, hi, hb, hk⟩; have n0_ := Aside0.mk (IsS47.keepg (show IsS47 w _ g195 t222 t223 t224 t225 t226 t227 from by repeat (first | (with_reducible first | exact HI195.out | apply IsS47.alloc | apply IsS47.drewN | apply IsS47.drew | apply IsS47.set_0 | apply IsS47.set_1 | apply IsS47.set_2 | apply IsS47.set_3 | apply IsS47.set_4 | apply IsS47.set_5) | exact HI195.out)) hk NS195_188.out); have n1_ := Aside0.mk (hb); have n2_ := Aside0.mk (hi); clear HI195; clear HB; clear HI188; have HI195 := n0_; have HB := n1_; have HI188 := n2_; clear n0_ n1_ n2_; (try clear hb); (try clear hb2); (try clear hgn); (try clear hk); (try clear hi)) | (go_at_call 16; (with_reducible refine (watchkeeperref12_Delay_Value.calls g195 t222 t223 t224 t225 t226 t227 t234 t235 t236 t237 t238 t239 t240 w _ ?side1 ?side2 A36.out).mono ?_); (case side1 => repeat (first | (with_reducible first | exact HI195.out | apply IsS47.alloc | apply IsS47.drewN | apply IsS47.drew | apply IsS47.set_0 | apply IsS47.set_1 | apply IsS47.set_2 | apply IsS47.set_3 | apply IsS47.set_4 | apply IsS47.set_5) | exact HI195.out)); (case side2 => repeat (first | (with_reducible first | exact HB.out | apply below_alloc | apply pw_below_drewN | apply below_drew1 | refine below_set ?_ (IsS44.ge HI188.out) | refine below_set ?_ (IsS47.ge HI195.out)) | exact HB.out)); rintro e w45 ⟨rfl, hi, hb, hk⟩; have n0_ := Aside0.mk (IsS44.keepg (show IsS44 w _ g188 t229 t230 t231 t232 t233 from by repeat (first | (with_reducible first | exact HI188.out | apply IsS44.alloc | apply IsS44.drewN | apply IsS44.drew | apply IsS44.set_0 | apply IsS44.set_1 | apply IsS44.set_2 | apply IsS44.set_3 | apply IsS44.set_4) | exact HI188.out)) hk NS188_195.out); have n1_ := Aside0.mk (hb); have n2_ := Aside0.mk (hi); clear HI188; clear HB; clear HI195; have HI188 := n0_; have HB := n1_; have HI195 := n2_; clear n0_ n1_ n2_; (try clear hb); (try clear hb2); (try clear hgn); (try clear hk); (try clear hi)))
                    go_ret
                    exact ⟨by first | rfl | (simp [errW_none, errW_some] <;> rfl) | (simp [*, errW_none, errW_some] <;> rfl), by repeat (first | (with_reducible first | exact HB.out | apply below_alloc | apply pw_below_drewN | apply below_drew1 | refine below_set ?_ (IsS44.ge HI188.out) | refine below_set ?_ (IsS47.ge HI195.out)) | exact HB.out)⟩
                  · rw [if_neg c37] at H
                    have c37b0 : (t228 != t234) = false := by simpa using c37
                    (try (have c37b1 : decide (t228 = t234) = true := by simpa using c37))
                    (try (have c37b2 : (t228 == t234) = true := by simpa using c37))
                    clear c37
                    have H' := Aside0.mk H
                    clear H
                    try go_wp2
                    have n0_ := Aside0.mk (IsS44.drew HI188.out)
                    have n1_ := Aside0.mk (IsS47.drew HI195.out)
                    have n2_ := Aside0.mk (below_drew1 HB.out)
                    clear HI188
                    clear HI195
                    clear HB
                    have HI188 := n0_
                    have HI195 := n1_
                    have HB := n2_
                    clear n0_ n1_ n2_
                    have p196 : 0 ≤ (x10_1 : Int) := of_decide_eq_true (by first | (with_reducible assumption) | assumption)
                    have q196 : x10_1 < (l2.length : Int) := of_decide_eq_true (by first | (with_reducible assumption) | assumption)
                    obtain ⟨ad196, e196, hx196_0, hx196_1⟩ := at_T30 HR2.out x10_1 p196 q196
                    have hw196_1 := hx196_1
                    have hw196_0 := hx196_0
                    cases e196
                    replace hx196_0 := (HB.out.cell (World.block_lt_of_cell? w _ hx196_0)).trans hx196_0
                    replace hx196_1 := (HB.out.cell (World.block_lt_of_cell? w _ hx196_1)).trans hx196_1
                    replace p196 := eq_true p196
                    replace q196 := eq_true q196
                    have p197 : 0 ≤ (x10_1 : Int) := of_decide_eq_true (by first | (with_reducible assumption) | assumption)
                    have q197 : x10_1 < (l2.length : Int) := of_decide_eq_true (by first | (with_reducible assumption) | assumption)
                    obtain ⟨ad197, e197, hx197_0, hx197_1⟩ := at_T30 HR2.out x10_1 p197 q197
                    have hw197_1 := hx197_1
                    have hw197_0 := hx197_0
                    obtain rfl : ad196 = ad197 := (by injection e197)
                    replace hx197_0 := (HB.out.cell (World.block_lt_of_cell? w _ hx197_0)).trans hx197_0
                    replace hx197_1 := (HB.out.cell (World.block_lt_of_cell? w _ hx197_1)).trans hx197_1
                    replace p197 := eq_true p197
                    replace q197 := eq_true q197
                    refine start_ (n := 13) (S := fun w' => w'.cell? (ad196.add ((x10_1).toNat * 2)) = some (.bool ((rd_T30 l2 x10_1).f0)) ∧ w'.cell? ⟨(ad196.add ((x10_1).toNat * 2)).block, (ad196.add ((x10_1).toNat * 2)).off + 1, none⟩ = some (.int .i64 ((rd_T30 l2 x10_1).f1)) ∧ w'.cell? (ad196.add ((x10_1).toNat * 2)) = some (.bool ((rd_T30 l2 x10_1).f0)) ∧ w'.cell? ⟨(ad196.add ((x10_1).toNat * 2)).block, (ad196.add ((x10_1).toNat * 2)).off + 1, none⟩ = some (.int .i64 ((rd_T30 l2 x10_1).f1))) (ds := []) #[false, false, false, false, false, false, false, false, false, false, false, false, false] (by kernel_rfl) rfl rfl ⟨((HB.out.cell (World.block_lt_of_cell? w _ hw196_0)).trans hw196_0), ((HB.out.cell (World.block_lt_of_cell? w _ hw196_1)).trans hw196_1), ((HB.out.cell (World.block_lt_of_cell? w _ hw197_0)).trans hw197_0), ((HB.out.cell (World.block_lt_of_cell? w _ hw197_1)).trans hw197_1)⟩ (fun hHeld => ?_); refine with_tabW watchkeeperlaw12_DelayPlays.tab9 watchkeeperlaw12_DelayPlays.bits9 (fun HT_ HW_ => ?_)
                    generalize wr.drew = w46 at HI188 HI195 HB hx196_0 hx196_1 hx197_0 hx197_1 hHeld ⊢
                    refine pure_ (i := 0) (N := some 42) (v := ?_) (a' := ?_) #[true, false, false, false, false, false, false, false, false, false, false, false, false] rfl rfl (any_of HT_.out (by kernel_rfl)) (fun _ _ _ h => h) (Or.inl ⟨by rfl, ?_⟩) ?_ ?_
                    rotate_left
                    · intro w'
                      go_simp
                      with_reducible rfl
                    rotate_left
                    · simp only [Act.put, List.setIfInBounds_toArray, List.set_cons_zero, List.set_cons_succ, i64_w, i32_w]
                      rfl
                    refine pure_ (i := 1) (N := some 43) (v := ?_) (a' := ?_) #[true, true, false, false, false, false, false, false, false, false, false, false, false] rfl rfl (any_of HT_.out (by kernel_rfl)) (fun _ _ _ h => h) (Or.inl ⟨by rfl, ?_⟩) ?_ ?_
                    rotate_left
                    · intro w'
                      go_simp
                      with_reducible rfl
                    rotate_left
                    · simp only [Act.put, List.setIfInBounds_toArray, List.set_cons_zero, List.set_cons_succ, i64_w, i32_w]
                      rfl
                    refine pure_ (i := 2) (N := some 44) (v := ?_) (a' := ?_) #[true, true, true, false, false, false, false, false, false, false, false, false, false] rfl rfl (any_of HT_.out (by kernel_rfl)) (fun _ _ _ h => h) (Or.inl ⟨by rfl, ?_⟩) ?_ ?_
                    rotate_left
                    · intro w'
                      go_simp
                      with_reducible rfl
                    rotate_left
                    · simp only [Act.put, List.setIfInBounds_toArray, List.set_cons_zero, List.set_cons_succ, i64_w, i32_w]
                      rfl
                    refine pure_ (i := 3) (N := some 45) (v := ?_) (a' := ?_) #[true, true, true, true, false, false, false, false, false, false, false, false, false] rfl rfl (any_of HT_.out (by kernel_rfl)) (fun _ _ _ h => h) (Or.inl ⟨by rfl, ?_⟩) ?_ ?_
                    rotate_left
                    · intro w'
                      go_simp
                      with_reducible rfl
                    rotate_left
                    · simp only [Act.put, List.setIfInBounds_toArray, List.set_cons_zero, List.set_cons_succ, i64_w, i32_w]
                      rfl
                    refine pure_ (i := 4) (N := some 46) (v := ?_) (a' := ?_) #[true, true, true, true, true, false, false, false, false, false, false, false, false] rfl rfl (any_of HT_.out (by kernel_rfl)) (fun _ _ _ h => h) (Or.inl ⟨by rfl, ?_⟩) ?_ ?_
                    rotate_left
                    · intro w'
                      go_simp
                      with_reducible rfl
                    rotate_left
                    · simp only [Act.put, List.setIfInBounds_toArray, List.set_cons_zero, List.set_cons_succ, i64_w, i32_w]
                      rfl
                    refine pure_ (i := 6) (N := some 48) (v := ?_) (a' := ?_) #[true, true, true, true, true, false, true, false, false, false, false, false, false] rfl rfl (any_of HT_.out (by kernel_rfl)) (fun _ _ _ h => h) (Or.inl ⟨by rfl, ?_⟩) ?_ ?_
                    rotate_left
                    · intro w'
                      go_simp
                      with_reducible rfl
                    rotate_left
                    · simp only [Act.put, List.setIfInBounds_toArray, List.set_cons_zero, List.set_cons_succ, i64_w, i32_w]
                      rfl
                    refine pure_ (i := 7) (N := some 49) (v := ?_) (a' := ?_) #[true, true, true, true, true, false, true, true, false, false, false, false, false] rfl rfl (any_of HT_.out (by kernel_rfl)) (fun _ _ _ h => h) (Or.inl ⟨by rfl, ?_⟩) ?_ ?_
                    rotate_left
                    · intro w'
                      go_simp
                      with_reducible rfl
                    rotate_left
                    · simp only [Act.put, List.setIfInBounds_toArray, List.set_cons_zero, List.set_cons_succ, i64_w, i32_w]
                      rfl
                    refine pure_ (i := 8) (N := some 50) (v := ?_) (a' := ?_) #[true, true, true, true, true, false, true, true, true, false, false, false, false] rfl rfl (any_of HT_.out (by kernel_rfl)) (fun _ _ _ h => h) (Or.inl ⟨by rfl, ?_⟩) ?_ ?_
                    rotate_left
                    · intro w'
                      go_simp
                      with_reducible rfl
                    rotate_left
                    · simp only [Act.put, List.setIfInBounds_toArray, List.set_cons_zero, List.set_cons_succ, i64_w, i32_w]
                      rfl
                    refine pure_ (i := 9) (N := some 51) (v := ?_) (a' := ?_) #[true, true, true, true, true, false, true, true, true, true, false, false, false] rfl rfl (any_of HT_.out (by kernel_rfl)) (fun _ _ _ h => h) (Or.inl ⟨by rfl, ?_⟩) ?_ ?_
                    rotate_left
                    · intro w'
                      go_simp
                      with_reducible rfl
                    rotate_left
                    · simp only [Act.put, List.setIfInBounds_toArray, List.set_cons_zero, List.set_cons_succ, i64_w, i32_w]
                      rfl
                    refine take_ (i := 5) (N := some 47) (v := ?_) (a' := ?_) #[true, true, true, true, true, true, true, true, true, true, false, false, false] rfl rfl (take_ofW HT_.out HW_.out (by kernel_rfl)) (fun _ _ _ h => h) (Or.inl ⟨by rfl, ?_⟩) hHeld ?_ ?_
                    rotate_left
                    · rintro w' ⟨s0, s1, s2, s3⟩
                      go_simp
                      with_reducible rfl
                    rotate_left
                    · simp only [Act.put, List.setIfInBounds_toArray, List.set_cons_zero, List.set_cons_succ, i64_w, i32_w]
                      rfl
                    refine take_ (i := 10) (N := some 52) (v := ?_) (a' := ?_) #[true, true, true, true, true, true, true, true, true, true, true, false, false] rfl rfl (take_ofW HT_.out HW_.out (by kernel_rfl)) (fun _ _ _ h => h) (Or.inl ⟨by rfl, ?_⟩) hHeld ?_ ?_
                    rotate_left
                    · rintro w' ⟨s0, s1, s2, s3⟩
                      go_simp
                      with_reducible rfl
                    rotate_left
                    · simp only [Act.put, List.setIfInBounds_toArray, List.set_cons_zero, List.set_cons_succ, i64_w, i32_w]
                      rfl
                    refine one_ (i := 11) (N := some 53) #[true, true, true, true, true, true, true, true, true, true, true, true, false] rfl rfl (one_of HT_.out (by kernel_rfl)) (by decide) (fun K hK => ?_)
                    refine goes_ Try.func11 (by kernel_rfl) rfl #[.pointer (some ⟨g188, 0, none⟩), .bool ((rd_T30 l2 x10_1).f0), .int .i64 ((rd_T30 l2 x10_1).f1)] (by rfl) rfl rfl (by (try simp only [List.map_toArray, List.map_cons, List.map_nil]); first | done | rfl | (simp only [List.length_drop, List.length_take]; rfl)) ?_
                    with_reducible refine (delay_Delay_See.calls g188 x189000_1 x189001_1 x189002_1 x189003_1 x189004_1 ((rd_T30 l2 x10_1).f0) ((rd_T30 l2 x10_1).f1) t198 t199 t200 t201 t202 t203 w _ ?side1 ?side2 A16.out).mono ?_
                    (case side1 => repeat (first | (with_reducible first | exact HI188.out | apply IsS44.alloc | apply IsS44.drewN | apply IsS44.drew | apply IsS44.set_0 | apply IsS44.set_1 | apply IsS44.set_2 | apply IsS44.set_3 | apply IsS44.set_4) | exact HI188.out))
                    (case side2 => repeat (first | (with_reducible first | exact HB.out | apply below_alloc | apply pw_below_drewN | apply below_drew1 | refine below_set ?_ (IsS44.ge HI188.out) | refine below_set ?_ (IsS47.ge HI195.out)) | exact HB.out))
                    rintro e w47 ⟨rfl, hi, hb, hk⟩
                    refine ⟨_, rfl, ?_⟩
                    have n0_ := Aside0.mk (IsS47.keepg (show IsS47 w _ g195 x196000_1 x196001_1 x196002_1 x196003_1 x196004_1 x196005_1 from by repeat (first | (with_reducible first | exact HI195.out | apply IsS47.alloc | apply IsS47.drewN | apply IsS47.drew | apply IsS47.set_0 | apply IsS47.set_1 | apply IsS47.set_2 | apply IsS47.set_3 | apply IsS47.set_4 | apply IsS47.set_5) | exact HI195.out)) hk NS195_188.out)
                    have n1_ := Aside0.mk (hb)
                    have n2_ := Aside0.mk (hi)
                    clear HI195
                    clear HB
                    clear HI188
                    have HI195 := n0_
                    have HB := n1_
                    have HI188 := n2_
                    clear n0_ n1_ n2_
                    (try clear hb)
                    (try clear hb2)
                    (try clear hgn)
                    (try clear hk)
                    (try clear hi)
                    refine hK.out _ _ ⟨((HB.out.cell (World.block_lt_of_cell? w _ hw196_0)).trans hw196_0), ((HB.out.cell (World.block_lt_of_cell? w _ hw196_1)).trans hw196_1), ((HB.out.cell (World.block_lt_of_cell? w _ hw197_0)).trans hw197_0), ((HB.out.cell (World.block_lt_of_cell? w _ hw197_1)).trans hw197_1)⟩ (fun hHeld => ?_)
                    clear hK K
                    refine norm_ (a' := ?_) ?_ ?_
                    rotate_left
                    · show Act.put _ (some 53) _ = _
                      simp only [Act.put, List.setIfInBounds_toArray, List.set_cons_zero, List.set_cons_succ, i64_w, i32_w]
                      rfl
                    refine pure_ (i := 12) (N := some 11) (v := ?_) (a' := ?_) #[true, true, true, true, true, true, true, true, true, true, true, true, true] rfl rfl (any_of HT_.out (by kernel_rfl)) (fun _ _ _ h => h) (Or.inl ⟨by rfl, ?_⟩) ?_ ?_
                    rotate_left
                    · intro w'
                      go_simp
                      with_reducible rfl
                    rotate_left
                    · simp only [Act.put, List.setIfInBounds_toArray, List.set_cons_zero, List.set_cons_succ, i64_w, i32_w]
                      rfl
                    refine done_ (done_of HT_.out (by kernel_rfl)) ?_
                    try go_wp2
                    have n0_ := Aside0.mk (IsS44.drew HI188.out)
                    have n1_ := Aside0.mk (IsS47.drew HI195.out)
                    have n2_ := Aside0.mk (below_drew1 HB.out)
                    clear HI188
                    clear HI195
                    clear HB
                    have HI188 := n0_
                    have HI195 := n1_
                    have HB := n2_
                    clear n0_ n1_ n2_
                    have p204 : 0 ≤ (x10_1 : Int) := of_decide_eq_true (by first | (with_reducible assumption) | assumption)
                    have q204 : x10_1 < (l2.length : Int) := of_decide_eq_true (by first | (with_reducible assumption) | assumption)
                    obtain ⟨ad204, e204, hx204_0, hx204_1⟩ := at_T30 HR2.out x10_1 p204 q204
                    have hw204_1 := hx204_1
                    have hw204_0 := hx204_0
                    obtain rfl : ad196 = ad204 := (by injection e204)
                    replace hx204_0 := (HB.out.cell (World.block_lt_of_cell? w _ hx204_0)).trans hx204_0
                    replace hx204_1 := (HB.out.cell (World.block_lt_of_cell? w _ hx204_1)).trans hx204_1
                    replace p204 := eq_true p204
                    replace q204 := eq_true q204
                    have p205 : 0 ≤ (x10_1 : Int) := of_decide_eq_true (by first | (with_reducible assumption) | assumption)
                    have q205 : x10_1 < (l2.length : Int) := of_decide_eq_true (by first | (with_reducible assumption) | assumption)
                    obtain ⟨ad205, e205, hx205_0, hx205_1⟩ := at_T30 HR2.out x10_1 p205 q205
                    have hw205_1 := hx205_1
                    have hw205_0 := hx205_0
                    obtain rfl : ad196 = ad205 := (by injection e205)
                    replace hx205_0 := (HB.out.cell (World.block_lt_of_cell? w _ hx205_0)).trans hx205_0
                    replace hx205_1 := (HB.out.cell (World.block_lt_of_cell? w _ hx205_1)).trans hx205_1
                    replace p205 := eq_true p205
                    replace q205 := eq_true q205
                    refine start_ (n := 13) (S := fun w' => w'.cell? (ad196.add ((x10_1).toNat * 2)) = some (.bool ((rd_T30 l2 x10_1).f0)) ∧ w'.cell? ⟨(ad196.add ((x10_1).toNat * 2)).block, (ad196.add ((x10_1).toNat * 2)).off + 1, none⟩ = some (.int .i64 ((rd_T30 l2 x10_1).f1)) ∧ w'.cell? (ad196.add ((x10_1).toNat * 2)) = some (.bool ((rd_T30 l2 x10_1).f0)) ∧ w'.cell? ⟨(ad196.add ((x10_1).toNat * 2)).block, (ad196.add ((x10_1).toNat * 2)).off + 1, none⟩ = some (.int .i64 ((rd_T30 l2 x10_1).f1))) (ds := []) #[false, false, false, false, false, false, false, false, false, false, false, false, false] (by kernel_rfl) rfl rfl ⟨((HB.out.cell (World.block_lt_of_cell? w _ hw204_0)).trans hw204_0), ((HB.out.cell (World.block_lt_of_cell? w _ hw204_1)).trans hw204_1), ((HB.out.cell (World.block_lt_of_cell? w _ hw205_0)).trans hw205_0), ((HB.out.cell (World.block_lt_of_cell? w _ hw205_1)).trans hw205_1)⟩ (fun hHeld => ?_); refine with_tabW watchkeeperlaw12_DelayPlays.tab10 watchkeeperlaw12_DelayPlays.bits10 (fun HT_ HW_ => ?_)
                    generalize w47.drew = w48 at HI188 HI195 HB hx204_0 hx204_1 hx205_0 hx205_1 hHeld ⊢
                    refine pure_ (i := 0) (N := some 54) (v := ?_) (a' := ?_) #[true, false, false, false, false, false, false, false, false, false, false, false, false] rfl rfl (any_of HT_.out (by kernel_rfl)) (fun _ _ _ h => h) (Or.inl ⟨by rfl, ?_⟩) ?_ ?_
                    rotate_left
                    · intro w'
                      go_simp
                      with_reducible rfl
                    rotate_left
                    · simp only [Act.put, List.setIfInBounds_toArray, List.set_cons_zero, List.set_cons_succ, i64_w, i32_w]
                      rfl
                    refine pure_ (i := 1) (N := some 55) (v := ?_) (a' := ?_) #[true, true, false, false, false, false, false, false, false, false, false, false, false] rfl rfl (any_of HT_.out (by kernel_rfl)) (fun _ _ _ h => h) (Or.inl ⟨by rfl, ?_⟩) ?_ ?_
                    rotate_left
                    · intro w'
                      go_simp
                      with_reducible rfl
                    rotate_left
                    · simp only [Act.put, List.setIfInBounds_toArray, List.set_cons_zero, List.set_cons_succ, i64_w, i32_w]
                      rfl
                    refine pure_ (i := 2) (N := some 56) (v := ?_) (a' := ?_) #[true, true, true, false, false, false, false, false, false, false, false, false, false] rfl rfl (any_of HT_.out (by kernel_rfl)) (fun _ _ _ h => h) (Or.inl ⟨by rfl, ?_⟩) ?_ ?_
                    rotate_left
                    · intro w'
                      go_simp
                      with_reducible rfl
                    rotate_left
                    · simp only [Act.put, List.setIfInBounds_toArray, List.set_cons_zero, List.set_cons_succ, i64_w, i32_w]
                      rfl
                    refine pure_ (i := 3) (N := some 57) (v := ?_) (a' := ?_) #[true, true, true, true, false, false, false, false, false, false, false, false, false] rfl rfl (any_of HT_.out (by kernel_rfl)) (fun _ _ _ h => h) (Or.inl ⟨by rfl, ?_⟩) ?_ ?_
                    rotate_left
                    · intro w'
                      go_simp
                      with_reducible rfl
                    rotate_left
                    · simp only [Act.put, List.setIfInBounds_toArray, List.set_cons_zero, List.set_cons_succ, i64_w, i32_w]
                      rfl
                    refine pure_ (i := 4) (N := some 58) (v := ?_) (a' := ?_) #[true, true, true, true, true, false, false, false, false, false, false, false, false] rfl rfl (any_of HT_.out (by kernel_rfl)) (fun _ _ _ h => h) (Or.inl ⟨by rfl, ?_⟩) ?_ ?_
                    rotate_left
                    · intro w'
                      go_simp
                      with_reducible rfl
                    rotate_left
                    · simp only [Act.put, List.setIfInBounds_toArray, List.set_cons_zero, List.set_cons_succ, i64_w, i32_w]
                      rfl
                    refine pure_ (i := 6) (N := some 60) (v := ?_) (a' := ?_) #[true, true, true, true, true, false, true, false, false, false, false, false, false] rfl rfl (any_of HT_.out (by kernel_rfl)) (fun _ _ _ h => h) (Or.inl ⟨by rfl, ?_⟩) ?_ ?_
                    rotate_left
                    · intro w'
                      go_simp
                      with_reducible rfl
                    rotate_left
                    · simp only [Act.put, List.setIfInBounds_toArray, List.set_cons_zero, List.set_cons_succ, i64_w, i32_w]
                      rfl
                    refine pure_ (i := 7) (N := some 61) (v := ?_) (a' := ?_) #[true, true, true, true, true, false, true, true, false, false, false, false, false] rfl rfl (any_of HT_.out (by kernel_rfl)) (fun _ _ _ h => h) (Or.inl ⟨by rfl, ?_⟩) ?_ ?_
                    rotate_left
                    · intro w'
                      go_simp
                      with_reducible rfl
                    rotate_left
                    · simp only [Act.put, List.setIfInBounds_toArray, List.set_cons_zero, List.set_cons_succ, i64_w, i32_w]
                      rfl
                    refine pure_ (i := 8) (N := some 62) (v := ?_) (a' := ?_) #[true, true, true, true, true, false, true, true, true, false, false, false, false] rfl rfl (any_of HT_.out (by kernel_rfl)) (fun _ _ _ h => h) (Or.inl ⟨by rfl, ?_⟩) ?_ ?_
                    rotate_left
                    · intro w'
                      go_simp
                      with_reducible rfl
                    rotate_left
                    · simp only [Act.put, List.setIfInBounds_toArray, List.set_cons_zero, List.set_cons_succ, i64_w, i32_w]
                      rfl
                    refine pure_ (i := 9) (N := some 63) (v := ?_) (a' := ?_) #[true, true, true, true, true, false, true, true, true, true, false, false, false] rfl rfl (any_of HT_.out (by kernel_rfl)) (fun _ _ _ h => h) (Or.inl ⟨by rfl, ?_⟩) ?_ ?_
                    rotate_left
                    · intro w'
                      go_simp
                      with_reducible rfl
                    rotate_left
                    · simp only [Act.put, List.setIfInBounds_toArray, List.set_cons_zero, List.set_cons_succ, i64_w, i32_w]
                      rfl
                    refine take_ (i := 5) (N := some 59) (v := ?_) (a' := ?_) #[true, true, true, true, true, true, true, true, true, true, false, false, false] rfl rfl (take_ofW HT_.out HW_.out (by kernel_rfl)) (fun _ _ _ h => h) (Or.inl ⟨by rfl, ?_⟩) hHeld ?_ ?_
                    rotate_left
                    · rintro w' ⟨s0, s1, s2, s3⟩
                      go_simp
                      with_reducible rfl
                    rotate_left
                    · simp only [Act.put, List.setIfInBounds_toArray, List.set_cons_zero, List.set_cons_succ, i64_w, i32_w]
                      rfl
                    refine take_ (i := 10) (N := some 64) (v := ?_) (a' := ?_) #[true, true, true, true, true, true, true, true, true, true, true, false, false] rfl rfl (take_ofW HT_.out HW_.out (by kernel_rfl)) (fun _ _ _ h => h) (Or.inl ⟨by rfl, ?_⟩) hHeld ?_ ?_
                    rotate_left
                    · rintro w' ⟨s0, s1, s2, s3⟩
                      go_simp
                      with_reducible rfl
                    rotate_left
                    · simp only [Act.put, List.setIfInBounds_toArray, List.set_cons_zero, List.set_cons_succ, i64_w, i32_w]
                      rfl
                    refine one_ (i := 11) (N := some 65) #[true, true, true, true, true, true, true, true, true, true, true, true, false] rfl rfl (one_of HT_.out (by kernel_rfl)) (by decide) (fun K hK => ?_)
                    refine goes_ Try.func12 (by kernel_rfl) rfl #[.pointer (some ⟨g195, 0, none⟩), .bool ((rd_T30 l2 x10_1).f0), .int .i64 ((rd_T30 l2 x10_1).f1)] (by rfl) rfl rfl (by (try simp only [List.map_toArray, List.map_cons, List.map_nil]); first | done | rfl | (simp only [List.length_drop, List.length_take]; rfl)) ?_
                    with_reducible refine (watchkeeperref12_Delay_See.calls k1 g195 x196000_1 x196001_1 x196002_1 x196003_1 x196004_1 x196005_1 ((rd_T30 l2 x10_1).f0) ((rd_T30 l2 x10_1).f1) t206 t207 t208 t209 t210 t211 t212 w _ ?side1 ?side2 A17.out).mono ?_
                    (case side1 => repeat (first | (with_reducible first | exact HI195.out | apply IsS47.alloc | apply IsS47.drewN | apply IsS47.drew | apply IsS47.set_0 | apply IsS47.set_1 | apply IsS47.set_2 | apply IsS47.set_3 | apply IsS47.set_4 | apply IsS47.set_5) | exact HI195.out))
                    (case side2 => repeat (first | (with_reducible first | exact HB.out | apply below_alloc | apply pw_below_drewN | apply below_drew1 | refine below_set ?_ (IsS44.ge HI188.out) | refine below_set ?_ (IsS47.ge HI195.out)) | exact HB.out))
                    rintro e w49 ⟨rfl, hi, hb, hk⟩
                    refine ⟨_, rfl, ?_⟩
                    have n0_ := Aside0.mk (IsS44.keepg (show IsS44 w _ g188 t199 t200 t201 t202 t203 from by repeat (first | (with_reducible first | exact HI188.out | apply IsS44.alloc | apply IsS44.drewN | apply IsS44.drew | apply IsS44.set_0 | apply IsS44.set_1 | apply IsS44.set_2 | apply IsS44.set_3 | apply IsS44.set_4) | exact HI188.out)) hk NS188_195.out)
                    have n1_ := Aside0.mk (hb)
                    have n2_ := Aside0.mk (hi)
                    clear HI188
                    clear HB
                    clear HI195
                    have HI188 := n0_
                    have HB := n1_
                    have HI195 := n2_
                    clear n0_ n1_ n2_
                    (try clear hb)
                    (try clear hb2)
                    (try clear hgn)
                    (try clear hk)
                    (try clear hi)
                    refine hK.out _ _ ⟨((HB.out.cell (World.block_lt_of_cell? w _ hw204_0)).trans hw204_0), ((HB.out.cell (World.block_lt_of_cell? w _ hw204_1)).trans hw204_1), ((HB.out.cell (World.block_lt_of_cell? w _ hw205_0)).trans hw205_0), ((HB.out.cell (World.block_lt_of_cell? w _ hw205_1)).trans hw205_1)⟩ (fun hHeld => ?_)
                    clear hK K
                    refine norm_ (a' := ?_) ?_ ?_
                    rotate_left
                    · show Act.put _ (some 65) _ = _
                      simp only [Act.put, List.setIfInBounds_toArray, List.set_cons_zero, List.set_cons_succ, i64_w, i32_w]
                      rfl
                    refine pure_ (i := 12) (N := some 12) (v := ?_) (a' := ?_) #[true, true, true, true, true, true, true, true, true, true, true, true, true] rfl rfl (any_of HT_.out (by kernel_rfl)) (fun _ _ _ h => h) (Or.inl ⟨by rfl, ?_⟩) ?_ ?_
                    rotate_left
                    · intro w'
                      go_simp
                      with_reducible rfl
                    rotate_left
                    · simp only [Act.put, List.setIfInBounds_toArray, List.set_cons_zero, List.set_cons_succ, i64_w, i32_w]
                      rfl
                    refine done_ (done_of HT_.out (by kernel_rfl)) ?_
                    try go_wp2_with (first | ((with_reducible refine gate_callee (f := 13) rfl ?_); refine goesL_ (some 68) rfl rfl Try.func13 (by kernel_rfl) rfl #[.pointer (some ⟨g188, 0, none⟩)] rfl (by (try simp only [List.map_toArray, List.map_cons, List.map_nil]); first | done | rfl | (simp only [List.length_drop, List.length_take]; rfl)) ?_; (with_reducible refine (delay_Delay_Since.calls g188 t199 t200 t201 t202 t203 t213 t214 t215 t216 t217 t218 t219 w _ ?side1 ?side2 A18.out).mono ?_); (case side1 => repeat (first | (with_reducible first | exact HI188.out | apply IsS44.alloc | apply IsS44.drewN | apply IsS44.drew | apply IsS44.set_0 | apply IsS44.set_1 | apply IsS44.set_2 | apply IsS44.set_3 | apply IsS44.set_4) | exact HI188.out)); (case side2 => repeat (first | (with_reducible first | exact HB.out | apply below_alloc | apply pw_below_drewN | apply below_drew1 | refine below_set ?_ (IsS44.ge HI188.out) | refine below_set ?_ (IsS47.ge HI195.out)) | exact HB.out)); rintro e w50 ⟨rfl, hi, hb, hk⟩; refine ⟨_, rfl, ?_⟩; have n0_ := Aside0.mk (IsS47.keepg (show IsS47 w _ g195 t207 t208 t209 t210 t211 t212 from by repeat (first | (with_reducible first | exact HI195.out | apply IsS47.alloc | apply IsS47.drewN | apply IsS47.drew | apply IsS47.set_0 | apply IsS47.set_1 | apply IsS47.set_2 | apply IsS47.set_3 | apply IsS47.set_4 | apply IsS47.set_5) | exact HI195.out)) hk NS195_188.out); have n1_ := Aside0.mk (hb); have n2_ := Aside0.mk (hi); clear HI195; clear HB; clear HI188; have HI195 := n0_; have HB := n1_; have HI188 := n2_; clear n0_ n1_ n2_; (try clear hb); (try clear hb2); (try clear hgn); (try clear hk); (try clear hi)) | ((with_reducible refine gate_callee (f := 14) rfl ?_); refine goesL_ (some 73) rfl rfl Try.func14 (by kernel_rfl) rfl #[.pointer (some ⟨g195, 0, none⟩)] rfl (by (try simp only [List.map_toArray, List.map_cons, List.map_nil]); first | done | rfl | (simp only [List.length_drop, List.length_take]; rfl)) ?_; (with_reducible refine (watchkeeperref12_Delay_Since.calls g195 t207 t208 t209 t210 t211 t212 t220 t221 t222 t223 t224 t225 t226 t227 w _ ?side1 ?side2 A19.out).mono ?_); (case side1 => repeat (first | (with_reducible first | exact HI195.out | apply IsS47.alloc | apply IsS47.drewN | apply IsS47.drew | apply IsS47.set_0 | apply IsS47.set_1 | apply IsS47.set_2 | apply IsS47.set_3 | apply IsS47.set_4 | apply IsS47.set_5) | exact HI195.out)); (case side2 => repeat (first | (with_reducible first | exact HB.out | apply below_alloc | apply pw_below_drewN | apply below_drew1 | refine below_set ?_ (IsS44.ge HI188.out) | refine below_set ?_ (IsS47.ge HI195.out)) | exact HB.out)); rintro e w51 ⟨rfl, hi, hb, hk⟩; refine ⟨_, rfl, ?_⟩; have n0_ := Aside0.mk (IsS44.keepg (show IsS44 w _ g188 t215 t216 t217 t218 t219 from by repeat (first | (with_reducible first | exact HI188.out | apply IsS44.alloc | apply IsS44.drewN | apply IsS44.drew | apply IsS44.set_0 | apply IsS44.set_1 | apply IsS44.set_2 | apply IsS44.set_3 | apply IsS44.set_4) | exact HI188.out)) hk NS188_195.out); have n1_ := Aside0.mk (hb); have n2_ := Aside0.mk (hi); clear HI188; clear HB; clear HI195; have HI188 := n0_; have HB := n1_; have HI195 := n2_; clear n0_ n1_ n2_; (try clear hb); (try clear hb2); (try clear hgn); (try clear hk); (try clear hi)) | (go_at_call 15; (with_reducible refine (delay_Delay_Value.calls g188 t215 t216 t217 t218 t219 t228 t229 t230 t231 t232 t233 w _ ?side1 ?side2 A35.out).mono ?_); (case side1 => repeat (first | (with_reducible first | exact HI188.out | apply IsS44.alloc | apply IsS44.drewN | apply IsS44.drew | apply IsS44.set_0 | apply IsS44.set_1 | apply IsS44.set_2 | apply IsS44.set_3 | apply IsS44.set_4) | exact HI188.out)); (case side2 => repeat (first | (with_reducible first | exact HB.out | apply below_alloc | apply pw_below_drewN | apply below_drew1 | refine below_set ?_ (IsS44.ge HI188.out) | refine below_set ?_ (IsS47.ge HI195.out)) | exact HB.out)); rintro e w52 ⟨rfl, hi, hb, hk⟩; have n0_ := Aside0.mk (IsS47.keepg (show IsS47 w _ g195 t222 t223 t224 t225 t226 t227 from by repeat (first | (with_reducible first | exact HI195.out | apply IsS47.alloc | apply IsS47.drewN | apply IsS47.drew | apply IsS47.set_0 | apply IsS47.set_1 | apply IsS47.set_2 | apply IsS47.set_3 | apply IsS47.set_4 | apply IsS47.set_5) | exact HI195.out)) hk NS195_188.out); have n1_ := Aside0.mk (hb); have n2_ := Aside0.mk (hi); clear HI195; clear HB; clear HI188; have HI195 := n0_; have HB := n1_; have HI188 := n2_; clear n0_ n1_ n2_; (try clear hb); (try clear hb2); (try clear hgn); (try clear hk); (try clear hi)) | (go_at_call 16; (with_reducible refine (watchkeeperref12_Delay_Value.calls g195 t222 t223 t224 t225 t226 t227 t234 t235 t236 t237 t238 t239 t240 w _ ?side1 ?side2 A36.out).mono ?_); (case side1 => repeat (first | (with_reducible first | exact HI195.out | apply IsS47.alloc | apply IsS47.drewN | apply IsS47.drew | apply IsS47.set_0 | apply IsS47.set_1 | apply IsS47.set_2 | apply IsS47.set_3 | apply IsS47.set_4 | apply IsS47.set_5) | exact HI195.out)); (case side2 => repeat (first | (with_reducible first | exact HB.out | apply below_alloc | apply pw_below_drewN | apply below_drew1 | refine below_set ?_ (IsS44.ge HI188.out) | refine below_set ?_ (IsS47.ge HI195.out)) | exact HB.out)); rintro e w53 ⟨rfl, hi, hb, hk⟩; have n0_ := Aside0.mk (IsS44.keepg (show IsS44 w _ g188 t229 t230 t231 t232 t233 from by repeat (first | (with_reducible first | exact HI188.out | apply IsS44.alloc | apply IsS44.drewN | apply IsS44.drew | apply IsS44.set_0 | apply IsS44.set_1 | apply IsS44.set_2 | apply IsS44.set_3 | apply IsS44.set_4) | exact HI188.out)) hk NS188_195.out); have n1_ := Aside0.mk (hb); have n2_ := Aside0.mk (hi); clear HI188; clear HB; clear HI195; have HI188 := n0_; have HB := n1_; have HI195 := n2_; clear n0_ n1_ n2_; (try clear hb); (try clear hb2); (try clear hgn); (try clear hk); (try clear hi)))
                    go_roundg k1
                    case measure => have := HK1.out; omega
                    case rel => exact ⟨(wrap64 (x10_1 + 1)), (t229), (t230), (t231), (t232), (t233), (t235), (t236), (t237), (t238), (t239), (t240), (by first | rfl | (simp; done) | (simp [*]; done)), H', ⟨by have := HK1.out; omega⟩, ⟨by repeat (first | (with_reducible first | exact HI188.out | apply IsS44.alloc | apply IsS44.drewN | apply IsS44.drew | apply IsS44.set_0 | apply IsS44.set_1 | apply IsS44.set_2 | apply IsS44.set_3 | apply IsS44.set_4) | exact HI188.out)⟩, ⟨by repeat (first | (with_reducible first | exact HI195.out | apply IsS47.alloc | apply IsS47.drewN | apply IsS47.drew | apply IsS47.set_0 | apply IsS47.set_1 | apply IsS47.set_2 | apply IsS47.set_3 | apply IsS47.set_4 | apply IsS47.set_5) | exact HI195.out)⟩, ⟨by repeat (first | (with_reducible first | exact HB.out | apply below_alloc | apply pw_below_drewN | apply below_drew1 | refine below_set ?_ (IsS44.ge HI188.out) | refine below_set ?_ (IsS47.ge HI195.out)) | exact HB.out)⟩⟩
              · rw [if_neg c27] at H
                have c27b0 : (t213 == t220) = false := beq_eq_false_iff_ne.mpr c27
                have c27b1 : (t213 != t220) = true := bne_iff_ne.mpr c27
                obtain rfl := Option.some.inj H
                try go_wp2
                have n0_ := Aside0.mk (IsS44.drew HI188.out)
                have n1_ := Aside0.mk (IsS47.drew HI195.out)
                have n2_ := Aside0.mk (below_drew1 HB.out)
                clear HI188
                clear HI195
                clear HB
                have HI188 := n0_
                have HI195 := n1_
                have HB := n2_
                clear n0_ n1_ n2_
                have p196 : 0 ≤ (x10_1 : Int) := of_decide_eq_true (by first | (with_reducible assumption) | assumption)
                have q196 : x10_1 < (l2.length : Int) := of_decide_eq_true (by first | (with_reducible assumption) | assumption)
                obtain ⟨ad196, e196, hx196_0, hx196_1⟩ := at_T30 HR2.out x10_1 p196 q196
                have hw196_1 := hx196_1
                have hw196_0 := hx196_0
                cases e196
                replace hx196_0 := (HB.out.cell (World.block_lt_of_cell? w _ hx196_0)).trans hx196_0
                replace hx196_1 := (HB.out.cell (World.block_lt_of_cell? w _ hx196_1)).trans hx196_1
                replace p196 := eq_true p196
                replace q196 := eq_true q196
                have p197 : 0 ≤ (x10_1 : Int) := of_decide_eq_true (by first | (with_reducible assumption) | assumption)
                have q197 : x10_1 < (l2.length : Int) := of_decide_eq_true (by first | (with_reducible assumption) | assumption)
                obtain ⟨ad197, e197, hx197_0, hx197_1⟩ := at_T30 HR2.out x10_1 p197 q197
                have hw197_1 := hx197_1
                have hw197_0 := hx197_0
                obtain rfl : ad196 = ad197 := (by injection e197)
                replace hx197_0 := (HB.out.cell (World.block_lt_of_cell? w _ hx197_0)).trans hx197_0
                replace hx197_1 := (HB.out.cell (World.block_lt_of_cell? w _ hx197_1)).trans hx197_1
                replace p197 := eq_true p197
                replace q197 := eq_true q197
                refine start_ (n := 13) (S := fun w' => w'.cell? (ad196.add ((x10_1).toNat * 2)) = some (.bool ((rd_T30 l2 x10_1).f0)) ∧ w'.cell? ⟨(ad196.add ((x10_1).toNat * 2)).block, (ad196.add ((x10_1).toNat * 2)).off + 1, none⟩ = some (.int .i64 ((rd_T30 l2 x10_1).f1)) ∧ w'.cell? (ad196.add ((x10_1).toNat * 2)) = some (.bool ((rd_T30 l2 x10_1).f0)) ∧ w'.cell? ⟨(ad196.add ((x10_1).toNat * 2)).block, (ad196.add ((x10_1).toNat * 2)).off + 1, none⟩ = some (.int .i64 ((rd_T30 l2 x10_1).f1))) (ds := []) #[false, false, false, false, false, false, false, false, false, false, false, false, false] (by kernel_rfl) rfl rfl ⟨((HB.out.cell (World.block_lt_of_cell? w _ hw196_0)).trans hw196_0), ((HB.out.cell (World.block_lt_of_cell? w _ hw196_1)).trans hw196_1), ((HB.out.cell (World.block_lt_of_cell? w _ hw197_0)).trans hw197_0), ((HB.out.cell (World.block_lt_of_cell? w _ hw197_1)).trans hw197_1)⟩ (fun hHeld => ?_); refine with_tabW watchkeeperlaw12_DelayPlays.tab9 watchkeeperlaw12_DelayPlays.bits9 (fun HT_ HW_ => ?_)
                generalize wr.drew = w54 at HI188 HI195 HB hx196_0 hx196_1 hx197_0 hx197_1 hHeld ⊢
                refine pure_ (i := 0) (N := some 42) (v := ?_) (a' := ?_) #[true, false, false, false, false, false, false, false, false, false, false, false, false] rfl rfl (any_of HT_.out (by kernel_rfl)) (fun _ _ _ h => h) (Or.inl ⟨by rfl, ?_⟩) ?_ ?_
                rotate_left
                · intro w'
                  go_simp
                  with_reducible rfl
                rotate_left
                · simp only [Act.put, List.setIfInBounds_toArray, List.set_cons_zero, List.set_cons_succ, i64_w, i32_w]
                  rfl
                refine pure_ (i := 1) (N := some 43) (v := ?_) (a' := ?_) #[true, true, false, false, false, false, false, false, false, false, false, false, false] rfl rfl (any_of HT_.out (by kernel_rfl)) (fun _ _ _ h => h) (Or.inl ⟨by rfl, ?_⟩) ?_ ?_
                rotate_left
                · intro w'
                  go_simp
                  with_reducible rfl
                rotate_left
                · simp only [Act.put, List.setIfInBounds_toArray, List.set_cons_zero, List.set_cons_succ, i64_w, i32_w]
                  rfl
                refine pure_ (i := 2) (N := some 44) (v := ?_) (a' := ?_) #[true, true, true, false, false, false, false, false, false, false, false, false, false] rfl rfl (any_of HT_.out (by kernel_rfl)) (fun _ _ _ h => h) (Or.inl ⟨by rfl, ?_⟩) ?_ ?_
                rotate_left
                · intro w'
                  go_simp
                  with_reducible rfl
                rotate_left
                · simp only [Act.put, List.setIfInBounds_toArray, List.set_cons_zero, List.set_cons_succ, i64_w, i32_w]
                  rfl
                refine pure_ (i := 3) (N := some 45) (v := ?_) (a' := ?_) #[true, true, true, true, false, false, false, false, false, false, false, false, false] rfl rfl (any_of HT_.out (by kernel_rfl)) (fun _ _ _ h => h) (Or.inl ⟨by rfl, ?_⟩) ?_ ?_
                rotate_left
                · intro w'
                  go_simp
                  with_reducible rfl
                rotate_left
                · simp only [Act.put, List.setIfInBounds_toArray, List.set_cons_zero, List.set_cons_succ, i64_w, i32_w]
                  rfl
                refine pure_ (i := 4) (N := some 46) (v := ?_) (a' := ?_) #[true, true, true, true, true, false, false, false, false, false, false, false, false] rfl rfl (any_of HT_.out (by kernel_rfl)) (fun _ _ _ h => h) (Or.inl ⟨by rfl, ?_⟩) ?_ ?_
                rotate_left
                · intro w'
                  go_simp
                  with_reducible rfl
                rotate_left
                · simp only [Act.put, List.setIfInBounds_toArray, List.set_cons_zero, List.set_cons_succ, i64_w, i32_w]
                  rfl
                refine pure_ (i := 6) (N := some 48) (v := ?_) (a' := ?_) #[true, true, true, true, true, false, true, false, false, false, false, false, false] rfl rfl (any_of HT_.out (by kernel_rfl)) (fun _ _ _ h => h) (Or.inl ⟨by rfl, ?_⟩) ?_ ?_
                rotate_left
                · intro w'
                  go_simp
                  with_reducible rfl
                rotate_left
                · simp only [Act.put, List.setIfInBounds_toArray, List.set_cons_zero, List.set_cons_succ, i64_w, i32_w]
                  rfl
                refine pure_ (i := 7) (N := some 49) (v := ?_) (a' := ?_) #[true, true, true, true, true, false, true, true, false, false, false, false, false] rfl rfl (any_of HT_.out (by kernel_rfl)) (fun _ _ _ h => h) (Or.inl ⟨by rfl, ?_⟩) ?_ ?_
                rotate_left
                · intro w'
                  go_simp
                  with_reducible rfl
                rotate_left
                · simp only [Act.put, List.setIfInBounds_toArray, List.set_cons_zero, List.set_cons_succ, i64_w, i32_w]
                  rfl
                refine pure_ (i := 8) (N := some 50) (v := ?_) (a' := ?_) #[true, true, true, true, true, false, true, true, true, false, false, false, false] rfl rfl (any_of HT_.out (by kernel_rfl)) (fun _ _ _ h => h) (Or.inl ⟨by rfl, ?_⟩) ?_ ?_
                rotate_left
                · intro w'
                  go_simp
                  with_reducible rfl
                rotate_left
                · simp only [Act.put, List.setIfInBounds_toArray, List.set_cons_zero, List.set_cons_succ, i64_w, i32_w]
                  rfl
                refine pure_ (i := 9) (N := some 51) (v := ?_) (a' := ?_) #[true, true, true, true, true, false, true, true, true, true, false, false, false] rfl rfl (any_of HT_.out (by kernel_rfl)) (fun _ _ _ h => h) (Or.inl ⟨by rfl, ?_⟩) ?_ ?_
                rotate_left
                · intro w'
                  go_simp
                  with_reducible rfl
                rotate_left
                · simp only [Act.put, List.setIfInBounds_toArray, List.set_cons_zero, List.set_cons_succ, i64_w, i32_w]
                  rfl
                refine take_ (i := 5) (N := some 47) (v := ?_) (a' := ?_) #[true, true, true, true, true, true, true, true, true, true, false, false, false] rfl rfl (take_ofW HT_.out HW_.out (by kernel_rfl)) (fun _ _ _ h => h) (Or.inl ⟨by rfl, ?_⟩) hHeld ?_ ?_
                rotate_left
                · rintro w' ⟨s0, s1, s2, s3⟩
                  go_simp
                  with_reducible rfl
                rotate_left
                · simp only [Act.put, List.setIfInBounds_toArray, List.set_cons_zero, List.set_cons_succ, i64_w, i32_w]
                  rfl
                refine take_ (i := 10) (N := some 52) (v := ?_) (a' := ?_) #[true, true, true, true, true, true, true, true, true, true, true, false, false] rfl rfl (take_ofW HT_.out HW_.out (by kernel_rfl)) (fun _ _ _ h => h) (Or.inl ⟨by rfl, ?_⟩) hHeld ?_ ?_
                rotate_left
                · rintro w' ⟨s0, s1, s2, s3⟩
                  go_simp
                  with_reducible rfl
                rotate_left
                · simp only [Act.put, List.setIfInBounds_toArray, List.set_cons_zero, List.set_cons_succ, i64_w, i32_w]
                  rfl
                refine one_ (i := 11) (N := some 53) #[true, true, true, true, true, true, true, true, true, true, true, true, false] rfl rfl (one_of HT_.out (by kernel_rfl)) (by decide) (fun K hK => ?_)
                refine goes_ Try.func11 (by kernel_rfl) rfl #[.pointer (some ⟨g188, 0, none⟩), .bool ((rd_T30 l2 x10_1).f0), .int .i64 ((rd_T30 l2 x10_1).f1)] (by rfl) rfl rfl (by (try simp only [List.map_toArray, List.map_cons, List.map_nil]); first | done | rfl | (simp only [List.length_drop, List.length_take]; rfl)) ?_
                with_reducible refine (delay_Delay_See.calls g188 x189000_1 x189001_1 x189002_1 x189003_1 x189004_1 ((rd_T30 l2 x10_1).f0) ((rd_T30 l2 x10_1).f1) t198 t199 t200 t201 t202 t203 w _ ?side1 ?side2 A16.out).mono ?_
                (case side1 => repeat (first | (with_reducible first | exact HI188.out | apply IsS44.alloc | apply IsS44.drewN | apply IsS44.drew | apply IsS44.set_0 | apply IsS44.set_1 | apply IsS44.set_2 | apply IsS44.set_3 | apply IsS44.set_4) | exact HI188.out))
                (case side2 => repeat (first | (with_reducible first | exact HB.out | apply below_alloc | apply pw_below_drewN | apply below_drew1 | refine below_set ?_ (IsS44.ge HI188.out) | refine below_set ?_ (IsS47.ge HI195.out)) | exact HB.out))
                rintro e w55 ⟨rfl, hi, hb, hk⟩
                refine ⟨_, rfl, ?_⟩
                have n0_ := Aside0.mk (IsS47.keepg (show IsS47 w _ g195 x196000_1 x196001_1 x196002_1 x196003_1 x196004_1 x196005_1 from by repeat (first | (with_reducible first | exact HI195.out | apply IsS47.alloc | apply IsS47.drewN | apply IsS47.drew | apply IsS47.set_0 | apply IsS47.set_1 | apply IsS47.set_2 | apply IsS47.set_3 | apply IsS47.set_4 | apply IsS47.set_5) | exact HI195.out)) hk NS195_188.out)
                have n1_ := Aside0.mk (hb)
                have n2_ := Aside0.mk (hi)
                clear HI195
                clear HB
                clear HI188
                have HI195 := n0_
                have HB := n1_
                have HI188 := n2_
                clear n0_ n1_ n2_
                (try clear hb)
                (try clear hb2)
                (try clear hgn)
                (try clear hk)
                (try clear hi)
                refine hK.out _ _ ⟨((HB.out.cell (World.block_lt_of_cell? w _ hw196_0)).trans hw196_0), ((HB.out.cell (World.block_lt_of_cell? w _ hw196_1)).trans hw196_1), ((HB.out.cell (World.block_lt_of_cell? w _ hw197_0)).trans hw197_0), ((HB.out.cell (World.block_lt_of_cell? w _ hw197_1)).trans hw197_1)⟩ (fun hHeld => ?_)
                clear hK K
                refine norm_ (a' := ?_) ?_ ?_
                rotate_left
                · show Act.put _ (some 53) _ = _
                  simp only [Act.put, List.setIfInBounds_toArray, List.set_cons_zero, List.set_cons_succ, i64_w, i32_w]
                  rfl
                refine pure_ (i := 12) (N := some 11) (v := ?_) (a' := ?_) #[true, true, true, true, true, true, true, true, true, true, true, true, true] rfl rfl (any_of HT_.out (by kernel_rfl)) (fun _ _ _ h => h) (Or.inl ⟨by rfl, ?_⟩) ?_ ?_
                rotate_left
                · intro w'
                  go_simp
                  with_reducible rfl
                rotate_left
                · simp only [Act.put, List.setIfInBounds_toArray, List.set_cons_zero, List.set_cons_succ, i64_w, i32_w]
                  rfl
                refine done_ (done_of HT_.out (by kernel_rfl)) ?_
                try go_wp2
                have n0_ := Aside0.mk (IsS44.drew HI188.out)
                have n1_ := Aside0.mk (IsS47.drew HI195.out)
                have n2_ := Aside0.mk (below_drew1 HB.out)
                clear HI188
                clear HI195
                clear HB
                have HI188 := n0_
                have HI195 := n1_
                have HB := n2_
                clear n0_ n1_ n2_
                have p204 : 0 ≤ (x10_1 : Int) := of_decide_eq_true (by first | (with_reducible assumption) | assumption)
                have q204 : x10_1 < (l2.length : Int) := of_decide_eq_true (by first | (with_reducible assumption) | assumption)
                obtain ⟨ad204, e204, hx204_0, hx204_1⟩ := at_T30 HR2.out x10_1 p204 q204
                have hw204_1 := hx204_1
                have hw204_0 := hx204_0
                obtain rfl : ad196 = ad204 := (by injection e204)
                replace hx204_0 := (HB.out.cell (World.block_lt_of_cell? w _ hx204_0)).trans hx204_0
                replace hx204_1 := (HB.out.cell (World.block_lt_of_cell? w _ hx204_1)).trans hx204_1
                replace p204 := eq_true p204
                replace q204 := eq_true q204
                have p205 : 0 ≤ (x10_1 : Int) := of_decide_eq_true (by first | (with_reducible assumption) | assumption)
                have q205 : x10_1 < (l2.length : Int) := of_decide_eq_true (by first | (with_reducible assumption) | assumption)
                obtain ⟨ad205, e205, hx205_0, hx205_1⟩ := at_T30 HR2.out x10_1 p205 q205
                have hw205_1 := hx205_1
                have hw205_0 := hx205_0
                obtain rfl : ad196 = ad205 := (by injection e205)
                replace hx205_0 := (HB.out.cell (World.block_lt_of_cell? w _ hx205_0)).trans hx205_0
                replace hx205_1 := (HB.out.cell (World.block_lt_of_cell? w _ hx205_1)).trans hx205_1
                replace p205 := eq_true p205
                replace q205 := eq_true q205
                refine start_ (n := 13) (S := fun w' => w'.cell? (ad196.add ((x10_1).toNat * 2)) = some (.bool ((rd_T30 l2 x10_1).f0)) ∧ w'.cell? ⟨(ad196.add ((x10_1).toNat * 2)).block, (ad196.add ((x10_1).toNat * 2)).off + 1, none⟩ = some (.int .i64 ((rd_T30 l2 x10_1).f1)) ∧ w'.cell? (ad196.add ((x10_1).toNat * 2)) = some (.bool ((rd_T30 l2 x10_1).f0)) ∧ w'.cell? ⟨(ad196.add ((x10_1).toNat * 2)).block, (ad196.add ((x10_1).toNat * 2)).off + 1, none⟩ = some (.int .i64 ((rd_T30 l2 x10_1).f1))) (ds := []) #[false, false, false, false, false, false, false, false, false, false, false, false, false] (by kernel_rfl) rfl rfl ⟨((HB.out.cell (World.block_lt_of_cell? w _ hw204_0)).trans hw204_0), ((HB.out.cell (World.block_lt_of_cell? w _ hw204_1)).trans hw204_1), ((HB.out.cell (World.block_lt_of_cell? w _ hw205_0)).trans hw205_0), ((HB.out.cell (World.block_lt_of_cell? w _ hw205_1)).trans hw205_1)⟩ (fun hHeld => ?_); refine with_tabW watchkeeperlaw12_DelayPlays.tab10 watchkeeperlaw12_DelayPlays.bits10 (fun HT_ HW_ => ?_)
                generalize w55.drew = w56 at HI188 HI195 HB hx204_0 hx204_1 hx205_0 hx205_1 hHeld ⊢
                refine pure_ (i := 0) (N := some 54) (v := ?_) (a' := ?_) #[true, false, false, false, false, false, false, false, false, false, false, false, false] rfl rfl (any_of HT_.out (by kernel_rfl)) (fun _ _ _ h => h) (Or.inl ⟨by rfl, ?_⟩) ?_ ?_
                rotate_left
                · intro w'
                  go_simp
                  with_reducible rfl
                rotate_left
                · simp only [Act.put, List.setIfInBounds_toArray, List.set_cons_zero, List.set_cons_succ, i64_w, i32_w]
                  rfl
                refine pure_ (i := 1) (N := some 55) (v := ?_) (a' := ?_) #[true, true, false, false, false, false, false, false, false, false, false, false, false] rfl rfl (any_of HT_.out (by kernel_rfl)) (fun _ _ _ h => h) (Or.inl ⟨by rfl, ?_⟩) ?_ ?_
                rotate_left
                · intro w'
                  go_simp
                  with_reducible rfl
                rotate_left
                · simp only [Act.put, List.setIfInBounds_toArray, List.set_cons_zero, List.set_cons_succ, i64_w, i32_w]
                  rfl
                refine pure_ (i := 2) (N := some 56) (v := ?_) (a' := ?_) #[true, true, true, false, false, false, false, false, false, false, false, false, false] rfl rfl (any_of HT_.out (by kernel_rfl)) (fun _ _ _ h => h) (Or.inl ⟨by rfl, ?_⟩) ?_ ?_
                rotate_left
                · intro w'
                  go_simp
                  with_reducible rfl
                rotate_left
                · simp only [Act.put, List.setIfInBounds_toArray, List.set_cons_zero, List.set_cons_succ, i64_w, i32_w]
                  rfl
                refine pure_ (i := 3) (N := some 57) (v := ?_) (a' := ?_) #[true, true, true, true, false, false, false, false, false, false, false, false, false] rfl rfl (any_of HT_.out (by kernel_rfl)) (fun _ _ _ h => h) (Or.inl ⟨by rfl, ?_⟩) ?_ ?_
                rotate_left
                · intro w'
                  go_simp
                  with_reducible rfl
                rotate_left
                · simp only [Act.put, List.setIfInBounds_toArray, List.set_cons_zero, List.set_cons_succ, i64_w, i32_w]
                  rfl
                refine pure_ (i := 4) (N := some 58) (v := ?_) (a' := ?_) #[true, true, true, true, true, false, false, false, false, false, false, false, false] rfl rfl (any_of HT_.out (by kernel_rfl)) (fun _ _ _ h => h) (Or.inl ⟨by rfl, ?_⟩) ?_ ?_
                rotate_left
                · intro w'
                  go_simp
                  with_reducible rfl
                rotate_left
                · simp only [Act.put, List.setIfInBounds_toArray, List.set_cons_zero, List.set_cons_succ, i64_w, i32_w]
                  rfl
                refine pure_ (i := 6) (N := some 60) (v := ?_) (a' := ?_) #[true, true, true, true, true, false, true, false, false, false, false, false, false] rfl rfl (any_of HT_.out (by kernel_rfl)) (fun _ _ _ h => h) (Or.inl ⟨by rfl, ?_⟩) ?_ ?_
                rotate_left
                · intro w'
                  go_simp
                  with_reducible rfl
                rotate_left
                · simp only [Act.put, List.setIfInBounds_toArray, List.set_cons_zero, List.set_cons_succ, i64_w, i32_w]
                  rfl
                refine pure_ (i := 7) (N := some 61) (v := ?_) (a' := ?_) #[true, true, true, true, true, false, true, true, false, false, false, false, false] rfl rfl (any_of HT_.out (by kernel_rfl)) (fun _ _ _ h => h) (Or.inl ⟨by rfl, ?_⟩) ?_ ?_
                rotate_left
                · intro w'
                  go_simp
                  with_reducible rfl
                rotate_left
                · simp only [Act.put, List.setIfInBounds_toArray, List.set_cons_zero, List.set_cons_succ, i64_w, i32_w]
                  rfl
                refine pure_ (i := 8) (N := some 62) (v := ?_) (a' := ?_) #[true, true, true, true, true, false, true, true, true, false, false, false, false] rfl rfl (any_of HT_.out (by kernel_rfl)) (fun _ _ _ h => h) (Or.inl ⟨by rfl, ?_⟩) ?_ ?_
                rotate_left
                · intro w'
                  go_simp
                  with_reducible rfl
                rotate_left
                · simp only [Act.put, List.setIfInBounds_toArray, List.set_cons_zero, List.set_cons_succ, i64_w, i32_w]
                  rfl
                refine pure_ (i := 9) (N := some 63) (v := ?_) (a' := ?_) #[true, true, true, true, true, false, true, true, true, true, false, false, false] rfl rfl (any_of HT_.out (by kernel_rfl)) (fun _ _ _ h => h) (Or.inl ⟨by rfl, ?_⟩) ?_ ?_
                rotate_left
                · intro w'
                  go_simp
                  with_reducible rfl
                rotate_left
                · simp only [Act.put, List.setIfInBounds_toArray, List.set_cons_zero, List.set_cons_succ, i64_w, i32_w]
                  rfl
                refine take_ (i := 5) (N := some 59) (v := ?_) (a' := ?_) #[true, true, true, true, true, true, true, true, true, true, false, false, false] rfl rfl (take_ofW HT_.out HW_.out (by kernel_rfl)) (fun _ _ _ h => h) (Or.inl ⟨by rfl, ?_⟩) hHeld ?_ ?_
                rotate_left
                · rintro w' ⟨s0, s1, s2, s3⟩
                  go_simp
                  with_reducible rfl
                rotate_left
                · simp only [Act.put, List.setIfInBounds_toArray, List.set_cons_zero, List.set_cons_succ, i64_w, i32_w]
                  rfl
                refine take_ (i := 10) (N := some 64) (v := ?_) (a' := ?_) #[true, true, true, true, true, true, true, true, true, true, true, false, false] rfl rfl (take_ofW HT_.out HW_.out (by kernel_rfl)) (fun _ _ _ h => h) (Or.inl ⟨by rfl, ?_⟩) hHeld ?_ ?_
                rotate_left
                · rintro w' ⟨s0, s1, s2, s3⟩
                  go_simp
                  with_reducible rfl
                rotate_left
                · simp only [Act.put, List.setIfInBounds_toArray, List.set_cons_zero, List.set_cons_succ, i64_w, i32_w]
                  rfl
                refine one_ (i := 11) (N := some 65) #[true, true, true, true, true, true, true, true, true, true, true, true, false] rfl rfl (one_of HT_.out (by kernel_rfl)) (by decide) (fun K hK => ?_)
                refine goes_ Try.func12 (by kernel_rfl) rfl #[.pointer (some ⟨g195, 0, none⟩), .bool ((rd_T30 l2 x10_1).f0), .int .i64 ((rd_T30 l2 x10_1).f1)] (by rfl) rfl rfl (by (try simp only [List.map_toArray, List.map_cons, List.map_nil]); first | done | rfl | (simp only [List.length_drop, List.length_take]; rfl)) ?_
                with_reducible refine (watchkeeperref12_Delay_See.calls k1 g195 x196000_1 x196001_1 x196002_1 x196003_1 x196004_1 x196005_1 ((rd_T30 l2 x10_1).f0) ((rd_T30 l2 x10_1).f1) t206 t207 t208 t209 t210 t211 t212 w _ ?side1 ?side2 A17.out).mono ?_
                (case side1 => repeat (first | (with_reducible first | exact HI195.out | apply IsS47.alloc | apply IsS47.drewN | apply IsS47.drew | apply IsS47.set_0 | apply IsS47.set_1 | apply IsS47.set_2 | apply IsS47.set_3 | apply IsS47.set_4 | apply IsS47.set_5) | exact HI195.out))
                (case side2 => repeat (first | (with_reducible first | exact HB.out | apply below_alloc | apply pw_below_drewN | apply below_drew1 | refine below_set ?_ (IsS44.ge HI188.out) | refine below_set ?_ (IsS47.ge HI195.out)) | exact HB.out))
                rintro e w57 ⟨rfl, hi, hb, hk⟩
                refine ⟨_, rfl, ?_⟩
                have n0_ := Aside0.mk (IsS44.keepg (show IsS44 w _ g188 t199 t200 t201 t202 t203 from by repeat (first | (with_reducible first | exact HI188.out | apply IsS44.alloc | apply IsS44.drewN | apply IsS44.drew | apply IsS44.set_0 | apply IsS44.set_1 | apply IsS44.set_2 | apply IsS44.set_3 | apply IsS44.set_4) | exact HI188.out)) hk NS188_195.out)
                have n1_ := Aside0.mk (hb)
                have n2_ := Aside0.mk (hi)
                clear HI188
                clear HB
                clear HI195
                have HI188 := n0_
                have HB := n1_
                have HI195 := n2_
                clear n0_ n1_ n2_
                (try clear hb)
                (try clear hb2)
                (try clear hgn)
                (try clear hk)
                (try clear hi)
                refine hK.out _ _ ⟨((HB.out.cell (World.block_lt_of_cell? w _ hw204_0)).trans hw204_0), ((HB.out.cell (World.block_lt_of_cell? w _ hw204_1)).trans hw204_1), ((HB.out.cell (World.block_lt_of_cell? w _ hw205_0)).trans hw205_0), ((HB.out.cell (World.block_lt_of_cell? w _ hw205_1)).trans hw205_1)⟩ (fun hHeld => ?_)
                clear hK K
                refine norm_ (a' := ?_) ?_ ?_
                rotate_left
                · show Act.put _ (some 65) _ = _
                  simp only [Act.put, List.setIfInBounds_toArray, List.set_cons_zero, List.set_cons_succ, i64_w, i32_w]
                  rfl
                refine pure_ (i := 12) (N := some 12) (v := ?_) (a' := ?_) #[true, true, true, true, true, true, true, true, true, true, true, true, true] rfl rfl (any_of HT_.out (by kernel_rfl)) (fun _ _ _ h => h) (Or.inl ⟨by rfl, ?_⟩) ?_ ?_
                rotate_left
                · intro w'
                  go_simp
                  with_reducible rfl
                rotate_left
                · simp only [Act.put, List.setIfInBounds_toArray, List.set_cons_zero, List.set_cons_succ, i64_w, i32_w]
                  rfl
                refine done_ (done_of HT_.out (by kernel_rfl)) ?_
                try go_wp2_with (first | ((with_reducible refine gate_callee (f := 13) rfl ?_); refine goesL_ (some 68) rfl rfl Try.func13 (by kernel_rfl) rfl #[.pointer (some ⟨g188, 0, none⟩)] rfl (by (try simp only [List.map_toArray, List.map_cons, List.map_nil]); first | done | rfl | (simp only [List.length_drop, List.length_take]; rfl)) ?_; (with_reducible refine (delay_Delay_Since.calls g188 t199 t200 t201 t202 t203 t213 t214 t215 t216 t217 t218 t219 w _ ?side1 ?side2 A18.out).mono ?_); (case side1 => repeat (first | (with_reducible first | exact HI188.out | apply IsS44.alloc | apply IsS44.drewN | apply IsS44.drew | apply IsS44.set_0 | apply IsS44.set_1 | apply IsS44.set_2 | apply IsS44.set_3 | apply IsS44.set_4) | exact HI188.out)); (case side2 => repeat (first | (with_reducible first | exact HB.out | apply below_alloc | apply pw_below_drewN | apply below_drew1 | refine below_set ?_ (IsS44.ge HI188.out) | refine below_set ?_ (IsS47.ge HI195.out)) | exact HB.out)); rintro e w58 ⟨rfl, hi, hb, hk⟩; refine ⟨_, rfl, ?_⟩; have n0_ := Aside0.mk (IsS47.keepg (show IsS47 w _ g195 t207 t208 t209 t210 t211 t212 from by repeat (first | (with_reducible first | exact HI195.out | apply IsS47.alloc | apply IsS47.drewN | apply IsS47.drew | apply IsS47.set_0 | apply IsS47.set_1 | apply IsS47.set_2 | apply IsS47.set_3 | apply IsS47.set_4 | apply IsS47.set_5) | exact HI195.out)) hk NS195_188.out); have n1_ := Aside0.mk (hb); have n2_ := Aside0.mk (hi); clear HI195; clear HB; clear HI188; have HI195 := n0_; have HB := n1_; have HI188 := n2_; clear n0_ n1_ n2_; (try clear hb); (try clear hb2); (try clear hgn); (try clear hk); (try clear hi)) | ((with_reducible refine gate_callee (f := 14) rfl ?_); refine goesL_ (some 73) rfl rfl Try.func14 (by kernel_rfl) rfl #[.pointer (some ⟨g195, 0, none⟩)] rfl (by (try simp only [List.map_toArray, List.map_cons, List.map_nil]); first | done | rfl | (simp only [List.length_drop, List.length_take]; rfl)) ?_; (with_reducible refine (watchkeeperref12_Delay_Since.calls g195 t207 t208 t209 t210 t211 t212 t220 t221 t222 t223 t224 t225 t226 t227 w _ ?side1 ?side2 A19.out).mono ?_); (case side1 => repeat (first | (with_reducible first | exact HI195.out | apply IsS47.alloc | apply IsS47.drewN | apply IsS47.drew | apply IsS47.set_0 | apply IsS47.set_1 | apply IsS47.set_2 | apply IsS47.set_3 | apply IsS47.set_4 | apply IsS47.set_5) | exact HI195.out)); (case side2 => repeat (first | (with_reducible first | exact HB.out | apply below_alloc | apply pw_below_drewN | apply below_drew1 | refine below_set ?_ (IsS44.ge HI188.out) | refine below_set ?_ (IsS47.ge HI195.out)) | exact HB.out)); rintro e w59 ⟨rfl, hi, hb, hk⟩; refine ⟨_, rfl, ?_⟩; have n0_ := Aside0.mk (IsS44.keepg (show IsS44 w _ g188 t215 t216 t217 t218 t219 from by repeat (first | (with_reducible first | exact HI188.out | apply IsS44.alloc | apply IsS44.drewN | apply IsS44.drew | apply IsS44.set_0 | apply IsS44.set_1 | apply IsS44.set_2 | apply IsS44.set_3 | apply IsS44.set_4) | exact HI188.out)) hk NS188_195.out); have n1_ := Aside0.mk (hb); have n2_ := Aside0.mk (hi); clear HI188; clear HB; clear HI195; have HI188 := n0_; have HB := n1_; have HI195 := n2_; clear n0_ n1_ n2_; (try clear hb); (try clear hb2); (try clear hgn); (try clear hk); (try clear hi)))
                go_ret
                exact ⟨by first | rfl | (simp [errW_none, errW_some] <;> rfl) | (simp [*, errW_none, errW_some] <;> rfl), by repeat (first | (with_reducible first | exact HB.out | apply below_alloc | apply pw_below_drewN | apply below_drew1 | refine below_set ?_ (IsS44.ge HI188.out) | refine below_set ?_ (IsS47.ge HI195.out)) | exact HB.out)⟩
          · rw [if_neg c15] at H
            exact absurd H (by simp)
        · rw [if_neg c14] at H
          have c14b0 : decide (x10_1 < (l2.length : Int)) = false := decide_eq_false c14
          clear c14
          obtain rfl := Option.some.inj H
          go_wp2
          go_ret
          exact ⟨by first | rfl | (simp [errW_none, errW_some] <;> rfl) | (simp [*, errW_none, errW_some] <;> rfl), by repeat (first | (with_reducible first | exact HB.out | apply below_alloc | apply pw_below_drewN | apply below_drew1 | refine below_set ?_ (IsS44.ge HI188.out) | refine below_set ?_ (IsS47.ge HI195.out)) | exact HB.out)⟩

end Go.Proofs.Ytljabocijojceaa.QA
