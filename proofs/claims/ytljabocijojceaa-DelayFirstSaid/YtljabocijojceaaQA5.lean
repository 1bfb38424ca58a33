-- Laid by wip/tools/pr.py (a program of this session's) over the kit's printer. Not trusted: Lean checks it.
import Derived.Test.YtljabocijojceaaQA0
import Derived.Test.YtljabocijojceaaQA1
namespace Go.Proofs.Ytljabocijojceaa.QA
open Go.RowKit Go.Proofs.YtljabocijojceaaW.PrintWords Go.Proofs.YtljabocijojceaaW.PrintLast Go.Proofs.YtljabocijojceaaW.PrintMore
attribute [local go_sem] max2_int min2_int max_two min_two max_three min_three max_four min_four   -- for this text's walks alone
set_option linter.unusedVariables false
set_option linter.unusedSimpArgs false

/-! ### watchkeeperlaw12_DelayBack: function 5 -/
mutual
def watchkeeperlaw12_DelayBack.l0 : Nat → List Bool → List Int → Bool → Int → Int → Int → Int → Bool → Int → Int → Int → Int → Bool → Int → Int → Option (Bool)
  | 0, _, _, _, _, _, _, _, _, _, _, _, _, _, _, _ => none
  | k + 1, x3, x4, x11, x15, x16, x279000, x279001, x279002, x279003, x279004, x285000, x285001, x285002, x285003, x285004 => if x16 < (x3.length : Int) then (watchkeeperlaw12_DelayBack.j1 k x3 x4 x11 x15 x16 (decide (x16 < (x4.length : Int))) x279000 x279001 x279002 x279003 x279004 x285000 x285001 x285002 x285003 x285004) else (watchkeeperlaw12_DelayBack.j1 k x3 x4 x11 x15 x16 false x279000 x279001 x279002 x279003 x279004 x285000 x285001 x285002 x285003 x285004)
def watchkeeperlaw12_DelayBack.j1 : Nat → List Bool → List Int → Bool → Int → Int → Bool → Int → Int → Bool → Int → Int → Int → Int → Bool → Int → Int → Option (Bool)
  | 0, _, _, _, _, _, _, _, _, _, _, _, _, _, _, _, _ => none
  | k + 1, x3, x4, x11, x15, x16, x86, x279000, x279001, x279002, x279003, x279004, x285000, x285001, x285002, x285003, x285004 => if x86 = true then (if 0 ≤ x16 then (if x16 < (x4.length : Int) then (if x16 < (x3.length : Int) then ((delay_Delay_See.f x279000 x279001 x279002 x279003 x279004 (rdOf false x3 x16) (wrap64 (x15 + (wrap64 (rd x4 x16))))).bind fun bt323 => ((delay_Delay_See.f x285000 x285001 x285002 x285003 x285004 (rdOf false x3 x16) (wrap64 (x15 + (wrap64 (rd x4 x16))))).bind fun bt330 => (if (bt323.1 != bt330.1) = true then (some false) else (watchkeeperlaw12_DelayBack.l0 k x3 x4 x11 (wrap64 (x15 + (wrap64 (rd x4 x16)))) (wrap64 (x16 + 1)) bt323.2.1 bt323.2.2.1 bt323.2.2.2.1 bt323.2.2.2.2.1 bt323.2.2.2.2.2 bt330.2.1 bt330.2.2.1 bt330.2.2.2.1 bt330.2.2.2.2.1 bt330.2.2.2.2.2)))) else (none)) else (none)) else (none)) else (if x11 = true then ((delay_Delay_Value.f x279000 x279001 x279002 x279003 x279004).bind fun bt309 => ((delay_Delay_Value.f x285000 x285001 x285002 x285003 x285004).bind fun bt315 => (some (bt309.1 == bt315.1)))) else (some false))
end
def watchkeeperlaw12_DelayBack.f (k : Nat) (a0 : Int) (a1 : Int) (a2 : Int) (l3 : List Bool) (l4 : List Int) : Option (Bool) := (watchkeeperlaw12_head.f).bind fun t272 => ((delay_New.f (wrap64 (1 + (wrap64 (a0)))) (wrap64 (a1))).bind fun bt273 => ((delay_New.f (wrap64 (1 + (wrap64 (a0)))) (wrap64 (a1))).bind fun bt279 => (if (l3.length : Int) > 300 then (some t272) else ((delay_Delay_See.f bt273.1 bt273.2.1 bt273.2.2.1 bt273.2.2.2.1 bt273.2.2.2.2 true (wrap64 (a2))).bind fun bt285 => ((delay_Delay_See.f bt285.2.1 bt285.2.2.1 bt285.2.2.2.1 bt285.2.2.2.2.1 bt285.2.2.2.2.2 true (wrap64 ((wrap64 (a2)) + (wrap64 (a0))))).bind fun bt291 => ((delay_Delay_See.f bt291.2.1 bt291.2.2.1 bt291.2.2.2.1 bt291.2.2.2.2.1 bt291.2.2.2.2.2 false (wrap64 ((wrap64 (a2)) + (wrap64 (a0))))).bind fun bt297 => ((delay_Delay_See.f bt279.1 bt279.2.1 bt279.2.2.1 bt279.2.2.2.1 bt279.2.2.2.2 false (wrap64 ((wrap64 (a2)) + (wrap64 (a0))))).bind fun bt303 => (watchkeeperlaw12_DelayBack.l0 k l3 l4 t272 (wrap64 ((wrap64 (a2)) + (wrap64 (a0)))) 0 bt297.2.1 bt297.2.2.1 bt297.2.2.2.1 bt297.2.2.2.2.1 bt297.2.2.2.2.2 bt303.2.1 bt303.2.2.1 bt303.2.2.2.1 bt303.2.2.2.2.1 bt303.2.2.2.2.2))))))))
theorem watchkeeperlaw12_DelayBack.mono_l : ∀ k, (∀ y0 y1 y2 y3 y4 y5 y6 y7 y8 y9 y10 y11 y12 y13 y14, LeO (watchkeeperlaw12_DelayBack.l0 k y0 y1 y2 y3 y4 y5 y6 y7 y8 y9 y10 y11 y12 y13 y14) (watchkeeperlaw12_DelayBack.l0 (k + 1) y0 y1 y2 y3 y4 y5 y6 y7 y8 y9 y10 y11 y12 y13 y14)) ∧ (∀ y0 y1 y2 y3 y4 y5 y6 y7 y8 y9 y10 y11 y12 y13 y14 y15, LeO (watchkeeperlaw12_DelayBack.j1 k y0 y1 y2 y3 y4 y5 y6 y7 y8 y9 y10 y11 y12 y13 y14 y15) (watchkeeperlaw12_DelayBack.j1 (k + 1) y0 y1 y2 y3 y4 y5 y6 y7 y8 y9 y10 y11 y12 y13 y14 y15))
  | 0 => ⟨fun _ _ _ _ _ _ _ _ _ _ _ _ _ _ _ r h => by simp [watchkeeperlaw12_DelayBack.l0] at h, fun _ _ _ _ _ _ _ _ _ _ _ _ _ _ _ _ r h => by simp [watchkeeperlaw12_DelayBack.j1] at h⟩
  | k + 1 => by
    obtain ⟨ih0, ih1⟩ := watchkeeperlaw12_DelayBack.mono_l k
    refine ⟨?_, ?_⟩
    · intro y0 y1 y2 y3 y4 y5 y6 y7 y8 y9 y10 y11 y12 y13 y14
      unfold watchkeeperlaw12_DelayBack.l0
      repeat' first
      | (with_reducible exact ih0 _ _ _ _ _ _ _ _ _ _ _ _ _ _ _)
      | (with_reducible exact ih1 _ _ _ _ _ _ _ _ _ _ _ _ _ _ _ _)
      | (with_reducible exact LeO.refl _)
      | (with_reducible exact LeO.none _)
      | (with_reducible refine LeO.ite ?_ ?_)
      | (with_reducible refine LeO.bind ?_ (fun _ => ?_))
      | exact ih0 _ _ _ _ _ _ _ _ _ _ _ _ _ _ _
      | exact ih1 _ _ _ _ _ _ _ _ _ _ _ _ _ _ _ _
      | exact LeO.none _
      | refine LeO.ite ?_ ?_
      | refine LeO.bind ?_ (fun _ => ?_)
    · intro y0 y1 y2 y3 y4 y5 y6 y7 y8 y9 y10 y11 y12 y13 y14 y15
      unfold watchkeeperlaw12_DelayBack.j1
      repeat' first
      | (with_reducible exact ih0 _ _ _ _ _ _ _ _ _ _ _ _ _ _ _)
      | (with_reducible exact ih1 _ _ _ _ _ _ _ _ _ _ _ _ _ _ _ _)
      | (with_reducible exact LeO.refl _)
      | (with_reducible exact LeO.none _)
      | (with_reducible refine LeO.ite ?_ ?_)
      | (with_reducible refine LeO.bind ?_ (fun _ => ?_))
      | exact ih0 _ _ _ _ _ _ _ _ _ _ _ _ _ _ _
      | exact ih1 _ _ _ _ _ _ _ _ _ _ _ _ _ _ _ _
      | exact LeO.none _
      | refine LeO.ite ?_ ?_
      | refine LeO.bind ?_ (fun _ => ?_)
theorem watchkeeperlaw12_DelayBack.mono : ∀ a0 a1 a2 a3 a4 k, LeO (watchkeeperlaw12_DelayBack.f k a0 a1 a2 a3 a4) (watchkeeperlaw12_DelayBack.f (k + 1) a0 a1 a2 a3 a4) := by
  intro a0 a1 a2 a3 a4 k
  obtain ⟨ih0, ih1⟩ := watchkeeperlaw12_DelayBack.mono_l k
  unfold watchkeeperlaw12_DelayBack.f
  repeat' first
      | (with_reducible exact ih0 _ _ _ _ _ _ _ _ _ _ _ _ _ _ _)
      | (with_reducible exact ih1 _ _ _ _ _ _ _ _ _ _ _ _ _ _ _ _)
      | (with_reducible exact LeO.refl _)
      | (with_reducible exact LeO.none _)
      | (with_reducible refine LeO.ite ?_ ?_)
      | (with_reducible refine LeO.bind ?_ (fun _ => ?_))
      | exact ih0 _ _ _ _ _ _ _ _ _ _ _ _ _ _ _
      | exact ih1 _ _ _ _ _ _ _ _ _ _ _ _ _ _ _ _
      | exact LeO.none _
      | refine LeO.ite ?_ ?_
      | refine LeO.bind ?_ (fun _ => ?_)
def watchkeeperlaw12_DelayBack.T16 : Bool × List (List Nat × List Nat) := (true, [([], []), ([], []), ([], []), ([1, 2], [1, 2]), ([3], [3]), ([], []), ([0, 4, 5], [0, 4, 5]), ([], []), ([], []), ([], []), ([8, 9], [8, 9]), ([10], [10]), ([], []), ([7, 11, 12, 6], [7, 11, 12]), ([6, 13], [6, 13])])
def watchkeeperlaw12_DelayBack.B16 : List Nat := [0, 0, 0, 6, 14, 0, 63, 0, 0, 0, 768, 1792, 0, 8191, 16383]
theorem watchkeeperlaw12_DelayBack.tab16 : rtab .any (opsOf Try.f5 16) = watchkeeperlaw12_DelayBack.T16 := by kernel_rfl
theorem watchkeeperlaw12_DelayBack.bits16 : waitsOk watchkeeperlaw12_DelayBack.T16.2 watchkeeperlaw12_DelayBack.B16 = true := by kernel_rfl
set_option maxHeartbeats 8000000 in
set_option maxRecDepth 100000 in
theorem watchkeeperlaw12_DelayBack.calls (k : Nat) (a0 : Int) (a1 : Int) (a2 : Int) (A3 : Option Addr) (c3 : Nat) (l3 : List Bool) (A4 : Option Addr) (c4 : Nat) (l4 : List Int) (r : Bool) (w : World) (hr3 : Kd.C Kd.bool w A3 l3.length l3) (hc3 : l3.length ≤ c3) (hr4 : Kd.C (Kd.int .u8) w A4 l4.length l4) (hc4 : l4.length ≤ c4) (h : watchkeeperlaw12_DelayBack.f k a0 a1 a2 l3 l4 = some r) :
    Calls Try.prog 5 #[.int .u8 a0, .int .u8 a1, .int .u16 a2, .slice A3 l3.length c3, .slice A4 l4.length c4] w fun e w' => e = .returned (.bool r) ∧ Below w.heap.size w w' := by
  have HR3 := Aside0.mk hr3
  have HC3 := Aside0.mk hc3
  clear hr3 hc3
  have HR4 := Aside0.mk hr4
  have HC4 := Aside0.mk hc4
  clear hr4 hc4
  have HB := Aside0.mk (Below.refl w.heap.size w)
  have H : ((watchkeeperlaw12_head.f).bind fun t272 => ((delay_New.f (wrap64 (1 + (wrap64 (a0)))) (wrap64 (a1))).bind fun bt273 => ((delay_New.f (wrap64 (1 + (wrap64 (a0)))) (wrap64 (a1))).bind fun bt279 => (if (l3.length : Int) > 300 then (some t272) else ((delay_Delay_See.f bt273.1 bt273.2.1 bt273.2.2.1 bt273.2.2.2.1 bt273.2.2.2.2 true (wrap64 (a2))).bind fun bt285 => ((delay_Delay_See.f bt285.2.1 bt285.2.2.1 bt285.2.2.2.1 bt285.2.2.2.2.1 bt285.2.2.2.2.2 true (wrap64 ((wrap64 (a2)) + (wrap64 (a0))))).bind fun bt291 => ((delay_Delay_See.f bt291.2.1 bt291.2.2.1 bt291.2.2.2.1 bt291.2.2.2.2.1 bt291.2.2.2.2.2 false (wrap64 ((wrap64 (a2)) + (wrap64 (a0))))).bind fun bt297 => ((delay_Delay_See.f bt279.1 bt279.2.1 bt279.2.2.1 bt279.2.2.2.1 bt279.2.2.2.2 false (wrap64 ((wrap64 (a2)) + (wrap64 (a0))))).bind fun bt303 => (watchkeeperlaw12_DelayBack.l0 k l3 l4 t272 (wrap64 ((wrap64 (a2)) + (wrap64 (a0)))) 0 bt297.2.1 bt297.2.2.1 bt297.2.2.2.1 bt297.2.2.2.2.1 bt297.2.2.2.2.2 bt303.2.1 bt303.2.2.1 bt303.2.2.2.1 bt303.2.2.2.2.1 bt303.2.2.2.2.2))))))))) = some r := h
  clear h
  replace H := Option.bind_eq_some_iff.mp H
  obtain ⟨t272, A60, H⟩ := H
  replace H : ((delay_New.f (wrap64 (1 + (wrap64 (a0)))) (wrap64 (a1))).bind fun bt273 => ((delay_New.f (wrap64 (1 + (wrap64 (a0)))) (wrap64 (a1))).bind fun bt279 => (if (l3.length : Int) > 300 then (some t272) else ((delay_Delay_See.f bt273.1 bt273.2.1 bt273.2.2.1 bt273.2.2.2.1 bt273.2.2.2.2 true (wrap64 (a2))).bind fun bt285 => ((delay_Delay_See.f bt285.2.1 bt285.2.2.1 bt285.2.2.2.1 bt285.2.2.2.2.1 bt285.2.2.2.2.2 true (wrap64 ((wrap64 (a2)) + (wrap64 (a0))))).bind fun bt291 => ((delay_Delay_See.f bt291.2.1 bt291.2.2.1 bt291.2.2.2.1 bt291.2.2.2.2.1 bt291.2.2.2.2.2 false (wrap64 ((wrap64 (a2)) + (wrap64 (a0))))).bind fun bt297 => ((delay_Delay_See.f bt279.1 bt279.2.1 bt279.2.2.1 bt279.2.2.2.1 bt279.2.2.2.2 false (wrap64 ((wrap64 (a2)) + (wrap64 (a0))))).bind fun bt303 => (watchkeeperlaw12_DelayBack.l0 k l3 l4 t272 (wrap64 ((wrap64 (a2)) + (wrap64 (a0)))) 0 bt297.2.1 bt297.2.2.1 bt297.2.2.2.1 bt297.2.2.2.2.1 bt297.2.2.2.2.2 bt303.2.1 bt303.2.2.1 bt303.2.2.2.1 bt303.2.2.2.2.1 bt303.2.2.2.2.2)))))))) = some r := H
  have A6 := Aside0.mk A60
  clear A60
  replace H := Option.bind_eq_some_iff.mp H
  obtain ⟨⟨t273, t274, t275, t276, t277⟩, A70, H⟩ := H
  replace H : ((delay_New.f (wrap64 (1 + (wrap64 (a0)))) (wrap64 (a1))).bind fun bt279 => (if (l3.length : Int) > 300 then (some t272) else ((delay_Delay_See.f t273 t274 t275 t276 t277 true (wrap64 (a2))).bind fun bt285 => ((delay_Delay_See.f bt285.2.1 bt285.2.2.1 bt285.2.2.2.1 bt285.2.2.2.2.1 bt285.2.2.2.2.2 true (wrap64 ((wrap64 (a2)) + (wrap64 (a0))))).bind fun bt291 => ((delay_Delay_See.f bt291.2.1 bt291.2.2.1 bt291.2.2.2.1 bt291.2.2.2.2.1 bt291.2.2.2.2.2 false (wrap64 ((wrap64 (a2)) + (wrap64 (a0))))).bind fun bt297 => ((delay_Delay_See.f bt279.1 bt279.2.1 bt279.2.2.1 bt279.2.2.2.1 bt279.2.2.2.2 false (wrap64 ((wrap64 (a2)) + (wrap64 (a0))))).bind fun bt303 => (watchkeeperlaw12_DelayBack.l0 k l3 l4 t272 (wrap64 ((wrap64 (a2)) + (wrap64 (a0)))) 0 bt297.2.1 bt297.2.2.1 bt297.2.2.2.1 bt297.2.2.2.2.1 bt297.2.2.2.2.2 bt303.2.1 bt303.2.2.1 bt303.2.2.2.1 bt303.2.2.2.2.1 bt303.2.2.2.2.2))))))) = some r := H
  have A7 := Aside0.mk A70
  clear A70
  replace H := Option.bind_eq_some_iff.mp H
  obtain ⟨⟨t279, t280, t281, t282, t283⟩, A80, H⟩ := H
  replace H : (if (l3.length : Int) > 300 then (some t272) else ((delay_Delay_See.f t273 t274 t275 t276 t277 true (wrap64 (a2))).bind fun bt285 => ((delay_Delay_See.f bt285.2.1 bt285.2.2.1 bt285.2.2.2.1 bt285.2.2.2.2.1 bt285.2.2.2.2.2 true (wrap64 ((wrap64 (a2)) + (wrap64 (a0))))).bind fun bt291 => ((delay_Delay_See.f bt291.2.1 bt291.2.2.1 bt291.2.2.2.1 bt291.2.2.2.2.1 bt291.2.2.2.2.2 false (wrap64 ((wrap64 (a2)) + (wrap64 (a0))))).bind fun bt297 => ((delay_Delay_See.f t279 t280 t281 t282 t283 false (wrap64 ((wrap64 (a2)) + (wrap64 (a0))))).bind fun bt303 => (watchkeeperlaw12_DelayBack.l0 k l3 l4 t272 (wrap64 ((wrap64 (a2)) + (wrap64 (a0)))) 0 bt297.2.1 bt297.2.2.1 bt297.2.2.2.1 bt297.2.2.2.2.1 bt297.2.2.2.2.2 bt303.2.1 bt303.2.2.1 bt303.2.2.2.1 bt303.2.2.2.2.1 bt303.2.2.2.2.2)))))) = some r := H
  have A8 := Aside0.mk A80
  clear A80
  by_cases c9 : (l3.length : Int) > 300
  · rw [if_pos c9] at H
    have c9b0 : decide (300 < (l3.length : Int)) = true := decide_eq_true c9
    have c9b1 : decide (300 < l3.length) = true := decide_eq_true (by omega)
    clear c9
    obtain rfl := Option.some.inj H
    go_enter Try.func5, Try.ntmps5
    go_wp2_with (first | ((with_reducible refine gate_callee (f := 8) rfl ?_); refine goesL_ (some 17) rfl rfl Try.func8 (by kernel_rfl) rfl #[] rfl (by (try simp only [List.map_toArray, List.map_cons, List.map_nil]); first | done | rfl | (simp only [List.length_drop, List.length_take]; rfl)) ?_; (with_reducible refine (watchkeeperlaw12_head.calls  t272 _ A6.out).mono ?_); rintro e w10 ⟨rfl, hb⟩; refine ⟨_, rfl, ?_⟩; have n0_ := Aside0.mk (below_step (by repeat (first | (with_reducible first | exact HB.out | apply below_alloc | apply pw_below_drewN | apply below_drew1) | exact HB.out)) hb); clear HB; have HB := n0_; clear n0_; (try clear hb); (try clear hb2); (try clear hgn); (try clear hk); (try clear hi)) | ((with_reducible refine gate_callee (f := 9) rfl ?_); refine goesL_ (some 23) rfl rfl Try.func9 (by kernel_rfl) rfl #[.int .i64 (wrap64 (1 + (wrap64 (a0)))), .int .i64 (wrap64 (a1))] rfl (by (try simp only [List.map_toArray, List.map_cons, List.map_nil]); first | done | rfl | (simp only [List.length_drop, List.length_take]; rfl)) ?_; (with_reducible refine (delay_New.calls (wrap64 (1 + (wrap64 (a0)))) (wrap64 (a1)) t273 t274 t275 t276 t277 w _ ?side1 A7.out).mono ?_); (case side1 => repeat (first | (with_reducible first | exact HB.out | apply below_alloc | apply pw_below_drewN | apply below_drew1) | exact HB.out)); rintro e w11 ⟨g278, rfl, hi, hb, hb2, hgn⟩; refine ⟨_, rfl, ?_⟩; have n0_ := Aside0.mk (hb); have n1_ := Aside0.mk (hi); clear HB; have HB := n0_; have HI278 := n1_; clear n0_ n1_; (try clear hb); (try clear hb2); (try clear hgn); (try clear hk); (try clear hi)) | ((with_reducible refine gate_callee (f := 9) rfl ?_); refine goesL_ (some 29) rfl rfl Try.func9 (by kernel_rfl) rfl #[.int .i64 (wrap64 (1 + (wrap64 (a0)))), .int .i64 (wrap64 (a1))] rfl (by (try simp only [List.map_toArray, List.map_cons, List.map_nil]); first | done | rfl | (simp only [List.length_drop, List.length_take]; rfl)) ?_; (with_reducible refine (delay_New.calls (wrap64 (1 + (wrap64 (a0)))) (wrap64 (a1)) t279 t280 t281 t282 t283 w _ ?side1 A8.out).mono ?_); (case side1 => repeat (first | (with_reducible first | exact HB.out | apply below_alloc | apply pw_below_drewN | apply below_drew1 | refine below_set ?_ (IsS44.ge HI278.out)) | exact HB.out)); rintro e w12 ⟨g284, rfl, hi, hb, hb2, hgn⟩; refine ⟨_, rfl, ?_⟩; have n0_ := Aside0.mk (IsS44.below (by repeat (first | (with_reducible first | exact HI278.out | apply IsS44.alloc | apply IsS44.drewN | apply IsS44.drew | apply IsS44.set_0 | apply IsS44.set_1 | apply IsS44.set_2 | apply IsS44.set_3 | apply IsS44.set_4) | exact HI278.out)) hb2); have n1_ := Aside0.mk (hb); have n2_ := Aside0.mk (hi); have n3_ := Aside0.mk ((Nat.ne_of_gt (Nat.lt_of_lt_of_le (IsS44.lt (show IsS44 w _ g278 t273 t274 t275 t276 t277 from by repeat (first | (with_reducible first | exact HI278.out | apply IsS44.alloc | apply IsS44.drewN | apply IsS44.drew | apply IsS44.set_0 | apply IsS44.set_1 | apply IsS44.set_2 | apply IsS44.set_3 | apply IsS44.set_4) | exact HI278.out))) hgn) : g284 ≠ g278)); have n4_ := Aside0.mk ((Nat.ne_of_lt (Nat.lt_of_lt_of_le (IsS44.lt (show IsS44 w _ g278 t273 t274 t275 t276 t277 from by repeat (first | (with_reducible first | exact HI278.out | apply IsS44.alloc | apply IsS44.drewN | apply IsS44.drew | apply IsS44.set_0 | apply IsS44.set_1 | apply IsS44.set_2 | apply IsS44.set_3 | apply IsS44.set_4) | exact HI278.out))) hgn) : g278 ≠ g284)); clear HI278; clear HB; have HI278 := n0_; have HB := n1_; have HI284 := n2_; have NS284_278 := n3_; have NS278_284 := n4_; clear n0_ n1_ n2_ n3_ n4_; (try clear hb); (try clear hb2); (try clear hgn); (try clear hk); (try clear hi)))
    go_ret
    exact ⟨by first | rfl | (simp [errW_none, errW_some] <;> rfl) | (simp [*, errW_none, errW_some] <;> rfl), by repeat (first | (with_reducible first | exact HB.out | apply below_alloc | apply pw_below_drewN | apply below_drew1 | refine below_set ?_ (IsS44.ge HI278.out) | refine below_set ?_ (IsS44.ge HI284.out)) | exact HB.out)⟩
  · rw [if_neg c9] at H
    have c9b0 : decide (300 < (l3.length : Int)) = false := decide_eq_false c9
    have c9b1 : decide (300 < l3.length) = false := decide_eq_false (by omega)
    clear c9
    replace H := Option.bind_eq_some_iff.mp H
    obtain ⟨⟨t285, t286, t287, t288, t289, t290⟩, A130, H⟩ := H
    replace H : ((delay_Delay_See.f t286 t287 t288 t289 t290 true (wrap64 ((wrap64 (a2)) + (wrap64 (a0))))).bind fun bt291 => ((delay_Delay_See.f bt291.2.1 bt291.2.2.1 bt291.2.2.2.1 bt291.2.2.2.2.1 bt291.2.2.2.2.2 false (wrap64 ((wrap64 (a2)) + (wrap64 (a0))))).bind fun bt297 => ((delay_Delay_See.f t279 t280 t281 t282 t283 false (wrap64 ((wrap64 (a2)) + (wrap64 (a0))))).bind fun bt303 => (watchkeeperlaw12_DelayBack.l0 k l3 l4 t272 (wrap64 ((wrap64 (a2)) + (wrap64 (a0)))) 0 bt297.2.1 bt297.2.2.1 bt297.2.2.2.1 bt297.2.2.2.2.1 bt297.2.2.2.2.2 bt303.2.1 bt303.2.2.1 bt303.2.2.2.1 bt303.2.2.2.2.1 bt303.2.2.2.2.2)))) = some r := H
    have A13 := Aside0.mk A130
    clear A130
    replace H := Option.bind_eq_some_iff.mp H
    obtain ⟨⟨t291, t292, t293, t294, t295, t296⟩, A140, H⟩ := H
    replace H : ((delay_Delay_See.f t292 t293 t294 t295 t296 false (wrap64 ((wrap64 (a2)) + (wrap64 (a0))))).bind fun bt297 => ((delay_Delay_See.f t279 t280 t281 t282 t283 false (wrap64 ((wrap64 (a2)) + (wrap64 (a0))))).bind fun bt303 => (watchkeeperlaw12_DelayBack.l0 k l3 l4 t272 (wrap64 ((wrap64 (a2)) + (wrap64 (a0)))) 0 bt297.2.1 bt297.2.2.1 bt297.2.2.2.1 bt297.2.2.2.2.1 bt297.2.2.2.2.2 bt303.2.1 bt303.2.2.1 bt303.2.2.2.1 bt303.2.2.2.2.1 bt303.2.2.2.2.2))) = some r := H
    have A14 := Aside0.mk A140
    clear A140
    replace H := Option.bind_eq_some_iff.mp H
    obtain ⟨⟨t297, t298, t299, t300, t301, t302⟩, A150, H⟩ := H
    replace H : ((delay_Delay_See.f t279 t280 t281 t282 t283 false (wrap64 ((wrap64 (a2)) + (wrap64 (a0))))).bind fun bt303 => (watchkeeperlaw12_DelayBack.l0 k l3 l4 t272 (wrap64 ((wrap64 (a2)) + (wrap64 (a0)))) 0 t298 t299 t300 t301 t302 bt303.2.1 bt303.2.2.1 bt303.2.2.2.1 bt303.2.2.2.2.1 bt303.2.2.2.2.2)) = some r := H
    have A15 := Aside0.mk A150
    clear A150
    replace H := Option.bind_eq_some_iff.mp H
    obtain ⟨⟨t303, t304, t305, t306, t307, t308⟩, A160, H⟩ := H
    replace H : (watchkeeperlaw12_DelayBack.l0 k l3 l4 t272 (wrap64 ((wrap64 (a2)) + (wrap64 (a0)))) 0 t298 t299 t300 t301 t302 t304 t305 t306 t307 t308) = some r := H
    have A16 := Aside0.mk A160
    clear A160
    have H' := Aside0.mk H
    clear H
    go_enter Try.func5, Try.ntmps5
    go_wp2_with (first | ((with_reducible refine gate_callee (f := 8) rfl ?_); refine goesL_ (some 17) rfl rfl Try.func8 (by kernel_rfl) rfl #[] rfl (by (try simp only [List.map_toArray, List.map_cons, List.map_nil]); first | done | rfl | (simp only [List.length_drop, List.length_take]; rfl)) ?_; (with_reducible refine (watchkeeperlaw12_head.calls  t272 _ A6.out).mono ?_); rintro e w17 ⟨rfl, hb⟩; refine ⟨_, rfl, ?_⟩; have n0_ := Aside0.mk (below_step (by repeat (first | (with_reducible first | exact HB.out | apply below_alloc | apply pw_below_drewN | apply below_drew1) | exact HB.out)) hb); clear HB; have HB := n0_; clear n0_; (try clear hb); (try clear hb2); (try clear hgn); (try clear hk); (try clear hi)) | ((with_reducible refine gate_callee (f := 9) rfl ?_); refine goesL_ (some 23) rfl rfl Try.func9 (by kernel_rfl) rfl #[.int .i64 (wrap64 (1 + (wrap64 (a0)))), .int .i64 (wrap64 (a1))] rfl (by (try simp only [List.map_toArray, List.map_cons, List.map_nil]); first | done | rfl | (simp only [List.length_drop, List.length_take]; rfl)) ?_; (with_reducible refine (delay_New.calls (wrap64 (1 + (wrap64 (a0)))) (wrap64 (a1)) t273 t274 t275 t276 t277 w _ ?side1 A7.out).mono ?_); (case side1 => repeat (first | (with_reducible first | exact HB.out | apply below_alloc | apply pw_below_drewN | apply below_drew1) | exact HB.out)); rintro e w18 ⟨g278, rfl, hi, hb, hb2, hgn⟩; refine ⟨_, rfl, ?_⟩; have n0_ := Aside0.mk (hb); have n1_ := Aside0.mk (hi); clear HB; have HB := n0_; have HI278 := n1_; clear n0_ n1_; (try clear hb); (try clear hb2); (try clear hgn); (try clear hk); (try clear hi)) | ((with_reducible refine gate_callee (f := 9) rfl ?_); refine goesL_ (some 29) rfl rfl Try.func9 (by kernel_rfl) rfl #[.int .i64 (wrap64 (1 + (wrap64 (a0)))), .int .i64 (wrap64 (a1))] rfl (by (try simp only [List.map_toArray, List.map_cons, List.map_nil]); first | done | rfl | (simp only [List.length_drop, List.length_take]; rfl)) ?_; (with_reducible refine (delay_New.calls (wrap64 (1 + (wrap64 (a0)))) (wrap64 (a1)) t279 t280 t281 t282 t283 w _ ?side1 A8.out).mono ?_); (case side1 => repeat (first | (with_reducible first | exact HB.out | apply below_alloc | apply pw_below_drewN | apply below_drew1 | refine below_set ?_ (IsS44.ge HI278.out)) | exact HB.out)); rintro e w19 ⟨g284, rfl, hi, hb, hb2, hgn⟩; refine ⟨_, rfl, ?_⟩; have n0_ := Aside0.mk (IsS44.below (by repeat (first | (with_reducible first | exact HI278.out | apply IsS44.alloc | apply IsS44.drewN | apply IsS44.drew | apply IsS44.set_0 | apply IsS44.set_1 | apply IsS44.set_2 | apply IsS44.set_3 | apply IsS44.set_4) | exact HI278.out)) hb2); have n1_ := Aside0.mk (hb); have n2_ := Aside0.mk (hi); have n3_ := Aside0.mk ((Nat.ne_of_gt (Nat.lt_of_lt_of_le (IsS44.lt (show IsS44 w _ g278 t273 t274 t275 t276 t277 from by repeat (first | (with_reducible first | exact HI278.out | apply IsS44.alloc | apply IsS44.drewN | apply IsS44.drew | apply IsS44.set_0 | apply IsS44.set_1 | apply IsS44.set_2 | apply IsS44.set_3 | apply IsS44.set_4) | exact HI278.out))) hgn) : g284 ≠ g278)); have n4_ := Aside0.mk ((Nat.ne_of_lt (Nat.lt_of_lt_of_le (IsS44.lt (show IsS44 w _ g278 t273 t274 t275 t276 t277 from by repeat (first | (with_reducible first | exact HI278.out | apply IsS44.alloc | apply IsS44.drewN | apply IsS44.drew | apply IsS44.set_0 | apply IsS44.set_1 | apply IsS44.set_2 | apply IsS44.set_3 | apply IsS44.set_4) | exact HI278.out))) hgn) : g278 ≠ g284)); clear HI278; clear HB; have HI278 := n0_; have HB := n1_; have HI284 := n2_; have NS284_278 := n3_; have NS278_284 := n4_; clear n0_ n1_ n2_ n3_ n4_; (try clear hb); (try clear hb2); (try clear hgn); (try clear hk); (try clear hi)) | ((with_reducible refine gate_callee (f := 11) rfl ?_); refine goesL_ (some 54) rfl rfl Try.func11 (by kernel_rfl) rfl #[.pointer (some ⟨g278, 0, none⟩), .bool true, .int .i64 (wrap64 (a2))] rfl (by (try simp only [List.map_toArray, List.map_cons, List.map_nil]); first | done | rfl | (simp only [List.length_drop, List.length_take]; rfl)) ?_; (with_reducible refine (delay_Delay_See.calls g278 t273 t274 t275 t276 t277 true (wrap64 (a2)) t285 t286 t287 t288 t289 t290 w _ ?side1 ?side2 A13.out).mono ?_); (case side1 => repeat (first | (with_reducible first | exact HI278.out | apply IsS44.alloc | apply IsS44.drewN | apply IsS44.drew | apply IsS44.set_0 | apply IsS44.set_1 | apply IsS44.set_2 | apply IsS44.set_3 | apply IsS44.set_4) | exact HI278.out)); (case side2 => repeat (first | (with_reducible first | exact HB.out | apply below_alloc | apply pw_below_drewN | apply below_drew1 | refine below_set ?_ (IsS44.ge HI278.out) | refine below_set ?_ (IsS44.ge HI284.out)) | exact HB.out)); rintro e w20 ⟨rfl, hi, hb, hk⟩; refine ⟨_, rfl, ?_⟩; have n0_ := Aside0.mk (IsS44.keepg (show IsS44 w _ g284 t279 t280 t281 t282 t283 from by repeat (first | (with_reducible first | exact HI284.out | apply IsS44.alloc | apply IsS44.drewN | apply IsS44.drew | apply IsS44.set_0 | apply IsS44.set_1 | apply IsS44.set_2 | apply IsS44.set_3 | apply IsS44.set_4) | exact HI284.out)) hk NS284_278.out); have n1_ := Aside0.mk (hb); have n2_ := Aside0.mk (hi); clear HI284; clear HB; clear HI278; have HI284 := n0_; have HB := n1_; have HI278 := n2_; clear n0_ n1_ n2_; (try clear hb); (try clear hb2); (try clear hgn); (try clear hk); (try clear hi)) | ((with_reducible refine gate_callee (f := 11) rfl ?_); refine goesL_ (some 60) rfl rfl Try.func11 (by kernel_rfl) rfl #[.pointer (some ⟨g278, 0, none⟩), .bool true, .int .i64 (wrap64 ((wrap64 (a2)) + (wrap64 (a0))))] rfl (by (try simp only [List.map_toArray, List.map_cons, List.map_nil]); first | done | rfl | (simp only [List.length_drop, List.length_take]; rfl)) ?_; (with_reducible refine (delay_Delay_See.calls g278 t286 t287 t288 t289 t290 true (wrap64 ((wrap64 (a2)) + (wrap64 (a0)))) t291 t292 t293 t294 t295 t296 w _ ?side1 ?side2 A14.out).mono ?_); (case side1 => repeat (first | (with_reducible first | exact HI278.out | apply IsS44.alloc | apply IsS44.drewN | apply IsS44.drew | apply IsS44.set_0 | apply IsS44.set_1 | apply IsS44.set_2 | apply IsS44.set_3 | apply IsS44.set_4) | exact HI278.out)); (case side2 => repeat (first | (with_reducible first | exact HB.out | apply below_alloc | apply pw_below_drewN | apply below_drew1 | refine below_set ?_ (IsS44.ge HI278.out) | refine below_set ?_ (IsS44.ge HI284.out)) | exact HB.out)); rintro e w21 ⟨rfl, hi, hb, hk⟩; refine ⟨_, rfl, ?_⟩; have n0_ := Aside0.mk (IsS44.keepg (show IsS44 w _ g284 t279 t280 t281 t282 t283 from by repeat (first | (with_reducible first | exact HI284.out | apply IsS44.alloc | apply IsS44.drewN | apply IsS44.drew | apply IsS44.set_0 | apply IsS44.set_1 | apply IsS44.set_2 | apply IsS44.set_3 | apply IsS44.set_4) | exact HI284.out)) hk NS284_278.out); have n1_ := Aside0.mk (hb); have n2_ := Aside0.mk (hi); clear HI284; clear HB; clear HI278; have HI284 := n0_; have HB := n1_; have HI278 := n2_; clear n0_ n1_ n2_; (try clear hb); (try clear hb2); (try clear hgn); (try clear hk); (try clear hi)) | ((with_reducible refine gate_callee (f := 11) rfl ?_); refine goesL_ (some 66) rfl rfl Try.func11 (by kernel_rfl) rfl #[.pointer (some ⟨g278, 0, none⟩), .bool false, .int .i64 (wrap64 ((wrap64 (a2)) + (wrap64 (a0))))] rfl (by (try simp only [List.map_toArray, List.map_cons, List.map_nil]); first | done | rfl | (simp only [List.length_drop, List.length_take]; rfl)) ?_; (with_reducible refine (delay_Delay_See.calls g278 t292 t293 t294 t295 t296 false (wrap64 ((wrap64 (a2)) + (wrap64 (a0)))) t297 t298 t299 t300 t301 t302 w _ ?side1 ?side2 A15.out).mono ?_); (case side1 => repeat (first | (with_reducible first | exact HI278.out | apply IsS44.alloc | apply IsS44.drewN | apply IsS44.drew | apply IsS44.set_0 | apply IsS44.set_1 | apply IsS44.set_2 | apply IsS44.set_3 | apply IsS44.set_4) | exact HI278.out)); (case side2 => repeat (first | (with_reducible first | exact HB.out | apply below_alloc | apply pw_below_drewN | apply below_drew1 | refine below_set ?_ (IsS44.ge HI278.out) | refine below_set ?_ (IsS44.ge HI284.out)) | exact HB.out)); rintro e w22 ⟨rfl, hi, hb, hk⟩; refine ⟨_, rfl, ?_⟩; have n0_ := Aside0.mk (IsS44.keepg (show IsS44 w _ g284 t279 t280 t281 t282 t283 from by repeat (first | (with_reducible first | exact HI284.out | apply IsS44.alloc | apply IsS44.drewN | apply IsS44.drew | apply IsS44.set_0 | apply IsS44.set_1 | apply IsS44.set_2 | apply IsS44.set_3 | apply IsS44.set_4) | exact HI284.out)) hk NS284_278.out); have n1_ := Aside0.mk (hb); have n2_ := Aside0.mk (hi); clear HI284; clear HB; clear HI278; have HI284 := n0_; have HB := n1_; have HI278 := n2_; clear n0_ n1_ n2_; (try clear hb); (try clear hb2); (try clear hgn); (try clear hk); (try clear hi)) | ((with_reducible refine gate_callee (f := 11) rfl ?_); refine goesL_ (some 72) rfl rfl Try.func11 (by kernel_rfl) rfl #[.pointer (some ⟨g284, 0, none⟩), .bool false, .int .i64 (wrap64 ((wrap64 (a2)) + (wrap64 (a0))))] rfl (by (try simp only [List.map_toArray, List.map_cons, List.map_nil]); first | done | rfl | (simp only [List.length_drop, List.length_take]; rfl)) ?_; (with_reducible refine (delay_Delay_See.calls g284 t279 t280 t281 t282 t283 false (wrap64 ((wrap64 (a2)) + (wrap64 (a0)))) t303 t304 t305 t306 t307 t308 w _ ?side1 ?side2 A16.out).mono ?_); (case side1 => repeat (first | (with_reducible first | exact HI284.out | apply IsS44.alloc | apply IsS44.drewN | apply IsS44.drew | apply IsS44.set_0 | apply IsS44.set_1 | apply IsS44.set_2 | apply IsS44.set_3 | apply IsS44.set_4) | exact HI284.out)); (case side2 => repeat (first | (with_reducible first | exact HB.out | apply below_alloc | apply pw_below_drewN | apply below_drew1 | refine below_set ?_ (IsS44.ge HI278.out) | refine below_set ?_ (IsS44.ge HI284.out)) | exact HB.out)); rintro e w23 ⟨rfl, hi, hb, hk⟩; refine ⟨_, rfl, ?_⟩; have n0_ := Aside0.mk (IsS44.keepg (show IsS44 w _ g278 t298 t299 t300 t301 t302 from by repeat (first | (with_reducible first | exact HI278.out | apply IsS44.alloc | apply IsS44.drewN | apply IsS44.drew | apply IsS44.set_0 | apply IsS44.set_1 | apply IsS44.set_2 | apply IsS44.set_3 | apply IsS44.set_4) | exact HI278.out)) hk NS278_284.out); have n1_ := Aside0.mk (hb); have n2_ := Aside0.mk (hi); clear HI278; clear HB; clear HI284; have HI278 := n0_; have HB := n1_; have HI284 := n2_; clear n0_ n1_ n2_; (try clear hb); (try clear hb2); (try clear hgn); (try clear hk); (try clear hi)))
    go_loopg [15, 16] k (fun kq v15 v16 w' => ∃ (x15_1 : Int) (x16_1 : Int) (x279000_1 : Int) (x279001_1 : Int) (x279002_1 : Bool) (x279003_1 : Int) (x279004_1 : Int) (x285000_1 : Int) (x285001_1 : Int) (x285002_1 : Bool) (x285003_1 : Int) (x285004_1 : Int), v15 = .int .i64 x15_1 ∧ v16 = .int .i64 x16_1 ∧ Aside0 (watchkeeperlaw12_DelayBack.l0 kq l3 l4 t272 x15_1 x16_1 x279000_1 x279001_1 x279002_1 x279003_1 x279004_1 x285000_1 x285001_1 x285002_1 x285003_1 x285004_1 = some r) ∧ Aside0 (kq ≤ k) ∧ Aside0 (IsS44 w w' g278 x279000_1 x279001_1 x279002_1 x279003_1 x279004_1) ∧ Aside0 (IsS44 w w' g284 x285000_1 x285001_1 x285002_1 x285003_1 x285004_1) ∧ Aside0 (Below w.heap.size w w'))
    case atStart => exact ⟨(wrap64 ((wrap64 (a2)) + (wrap64 (a0)))), (0), (t298), (t299), (t300), (t301), (t302), (t304), (t305), (t306), (t307), (t308), (by first | rfl | (simp; done) | (simp [*]; done)), (by first | rfl | (simp; done) | (simp [*]; done)), H', ⟨Nat.le_refl _⟩, ⟨by repeat (first | (with_reducible first | exact HI278.out | apply IsS44.alloc | apply IsS44.drewN | apply IsS44.drew | apply IsS44.set_0 | apply IsS44.set_1 | apply IsS44.set_2 | apply IsS44.set_3 | apply IsS44.set_4) | exact HI278.out)⟩, ⟨by repeat (first | (with_reducible first | exact HI284.out | apply IsS44.alloc | apply IsS44.drewN | apply IsS44.drew | apply IsS44.set_0 | apply IsS44.set_1 | apply IsS44.set_2 | apply IsS44.set_3 | apply IsS44.set_4) | exact HI284.out)⟩, ⟨by repeat (first | (with_reducible first | exact HB.out | apply below_alloc | apply pw_below_drewN | apply below_drew1 | refine below_set ?_ (IsS44.ge HI278.out) | refine below_set ?_ (IsS44.ge HI284.out)) | exact HB.out)⟩⟩
    case round =>
      clear H'
      try clear c1
      try clear p2
      try clear c3
      try clear c4
      try clear c5
      try clear p6
      try clear c8
      try clear c9
      try clear c9b0
      try clear c9b1
      try clear c11
      obtain ⟨x15_1, x16_1, x279000_1, x279001_1, x279002_1, x279003_1, x279004_1, x285000_1, x285001_1, x285002_1, x285003_1, x285004_1, rfl, rfl, HA, HK1, HI278, HI284, HB⟩ := hrel
      cases gk with
      | zero => exact absurd HA.out (by simp [watchkeeperlaw12_DelayBack.l0])
      | succ k1 =>
        have H := HA.out
        clear HA
        simp only [watchkeeperlaw12_DelayBack.l0] at H
        have HC24 := Aside0.mk H
        clear H
        go_upto_region 13 with (fail)
        go_cut [86] (fun v86 wc => ∃ (kq : Nat) (x86_23 : Bool), v86 = .bool x86_23 ∧ Aside0 (watchkeeperlaw12_DelayBack.j1 kq l3 l4 t272 x15_1 x16_1 x86_23 x279000_1 x279001_1 x279002_1 x279003_1 x279004_1 x285000_1 x285001_1 x285002_1 x285003_1 x285004_1 = some r) ∧ Aside0 (kq ≤ k1) ∧ Aside0 (IsS44 w wc g278 x279000_1 x279001_1 x279002_1 x279003_1 x279004_1) ∧ Aside0 (IsS44 w wc g284 x285000_1 x285001_1 x285002_1 x285003_1 x285004_1) ∧ Aside0 (Below w.heap.size w wc))
        case first =>
          have H := HC24.out
          clear HC24
          by_cases c25 : x16_1 < (l3.length : Int)
          · rw [if_pos c25] at H
            have c25b0 : decide (x16_1 < (l3.length : Int)) = true := decide_eq_true c25
            clear c25
            (first | rw [c25b0] | (simp only [i64_w, i32_w]; rw [c25b0]) | skip)
            have H' := Aside0.mk H
            clear H
            go_wp2
            go_meet
            case rel => exact ⟨_, (decide (x16_1 < (l4.length : Int))), (by first | rfl | (simp; done) | (simp [*]; done)), H', ⟨by have := HK1.out; first | omega | exact Nat.le_refl _⟩, ⟨by repeat (first | (with_reducible first | exact HI278.out | apply IsS44.alloc | apply IsS44.drewN | apply IsS44.drew | apply IsS44.set_0 | apply IsS44.set_1 | apply IsS44.set_2 | apply IsS44.set_3 | apply IsS44.set_4) | exact HI278.out)⟩, ⟨by repeat (first | (with_reducible first | exact HI284.out | apply IsS44.alloc | apply IsS44.drewN | apply IsS44.drew | apply IsS44.set_0 | apply IsS44.set_1 | apply IsS44.set_2 | apply IsS44.set_3 | apply IsS44.set_4) | exact HI284.out)⟩, ⟨by repeat (first | (with_reducible first | exact HB.out | apply below_alloc | apply pw_below_drewN | apply below_drew1 | refine below_set ?_ (IsS44.ge HI278.out) | refine below_set ?_ (IsS44.ge HI284.out)) | exact HB.out)⟩⟩
          · rw [if_neg c25] at H
            have c25b0 : decide (x16_1 < (l3.length : Int)) = false := decide_eq_false c25
            clear c25
            (first | rw [c25b0] | (simp only [i64_w, i32_w]; rw [c25b0]) | skip)
            have H' := Aside0.mk H
            clear H
            go_wp2
            go_meet
            case rel => exact ⟨_, (false), (by first | rfl | (simp; done) | (simp [*]; done)), H', ⟨by have := HK1.out; first | omega | exact Nat.le_refl _⟩, ⟨by repeat (first | (with_reducible first | exact HI278.out | apply IsS44.alloc | apply IsS44.drewN | apply IsS44.drew | apply IsS44.set_0 | apply IsS44.set_1 | apply IsS44.set_2 | apply IsS44.set_3 | apply IsS44.set_4) | exact HI278.out)⟩, ⟨by repeat (first | (with_reducible first | exact HI284.out | apply IsS44.alloc | apply IsS44.drewN | apply IsS44.drew | apply IsS44.set_0 | apply IsS44.set_1 | apply IsS44.set_2 | apply IsS44.set_3 | apply IsS44.set_4) | exact HI284.out)⟩, ⟨by repeat (first | (with_reducible first | exact HB.out | apply below_alloc | apply pw_below_drewN | apply below_drew1 | refine below_set ?_ (IsS44.ge HI278.out) | refine below_set ?_ (IsS44.ge HI284.out)) | exact HB.out)⟩⟩
        case rest =>
          clear HC24
          try clear c1
          try clear c2
          try clear p2
          try clear c3
          try clear c4
          try clear c5
          try clear p6
          try clear c8
          try clear c9
          try clear c9b0
          try clear c9b1
          try clear c11
          try clear c25
          try clear c25b0
          try clear p2
          try clear p6
          obtain ⟨kq, x86_23, rfl, HA, HJ23, HI278, HI284, HB⟩ := hcut
          cases kq with
          | zero => exact absurd HA.out (by simp [watchkeeperlaw12_DelayBack.j1])
          | succ kj23 =>
            have H := HA.out
            clear HA
            simp only [watchkeeperlaw12_DelayBack.j1] at H
            by_cases c26 : x86_23 = true
            · subst c26
              have H1 : (if 0 ≤ x16_1 then (if x16_1 < (l4.length : Int) then (if x16_1 < (l3.length : Int) then ((delay_Delay_See.f x279000_1 x279001_1 x279002_1 x279003_1 x279004_1 (rdOf false l3 x16_1) (wrap64 (x15_1 + (wrap64 (rd l4 x16_1))))).bind fun bt323 => ((delay_Delay_See.f x285000_1 x285001_1 x285002_1 x285003_1 x285004_1 (rdOf false l3 x16_1) (wrap64 (x15_1 + (wrap64 (rd l4 x16_1))))).bind fun bt330 => (if (bt323.1 != bt330.1) = true then (some false) else (watchkeeperlaw12_DelayBack.l0 kj23 l3 l4 t272 (wrap64 (x15_1 + (wrap64 (rd l4 x16_1)))) (wrap64 (x16_1 + 1)) bt323.2.1 bt323.2.2.1 bt323.2.2.2.1 bt323.2.2.2.2.1 bt323.2.2.2.2.2 bt330.2.1 bt330.2.2.1 bt330.2.2.2.1 bt330.2.2.2.2.1 bt330.2.2.2.2.2)))) else (none)) else (none)) else (none)) = some r := by rw [if_pos rfl] at H; exact H
              clear H
              have H := H1
              clear H1
              by_cases c27 : 0 ≤ x16_1
              · rw [if_pos c27] at H
                have c27b0 : decide (0 ≤ x16_1) = true := decide_eq_true c27
                clear c27
                by_cases c28 : x16_1 < (l4.length : Int)
                · rw [if_pos c28] at H
                  have c28b0 : decide (x16_1 < (l4.length : Int)) = true := decide_eq_true c28
                  clear c28
                  by_cases c29 : x16_1 < (l3.length : Int)
                  · rw [if_pos c29] at H
                    have c29b0 : decide (x16_1 < (l3.length : Int)) = true := decide_eq_true c29
                    clear c29
                    replace H := Option.bind_eq_some_iff.mp H
                    obtain ⟨⟨t323, t324, t325, t326, t327, t328⟩, A300, H⟩ := H
                    replace H : ((delay_Delay_See.f x285000_1 x285001_1 x285002_1 x285003_1 x285004_1 (rdOf false l3 x16_1) (wrap64 (x15_1 + (wrap64 (rd l4 x16_1))))).bind fun bt330 => (if (t323 != bt330.1) = true then (some false) else (watchkeeperlaw12_DelayBack.l0 kj23 l3 l4 t272 (wrap64 (x15_1 + (wrap64 (rd l4 x16_1)))) (wrap64 (x16_1 + 1)) t324 t325 t326 t327 t328 bt330.2.1 bt330.2.2.1 bt330.2.2.2.1 bt330.2.2.2.2.1 bt330.2.2.2.2.2))) = some r := H
                    have A30 := Aside0.mk A300
                    clear A300
                    replace H := Option.bind_eq_some_iff.mp H
                    obtain ⟨⟨t330, t331, t332, t333, t334, t335⟩, A310, H⟩ := H
                    replace H : (if (t323 != t330) = true then (some false) else (watchkeeperlaw12_DelayBack.l0 kj23 l3 l4 t272 (wrap64 (x15_1 + (wrap64 (rd l4 x16_1)))) (wrap64 (x16_1 + 1)) t324 t325 t326 t327 t328 t331 t332 t333 t334 t335)) = some r := H
                    have A31 := Aside0.mk A310
                    clear A310
                    by_cases c32 : (t323 != t330) = true
                    · rw [if_pos c32] at H
                      have c32b0 : (t323 != t330) = true := c32
                      (try (have c32b1 : decide (t323 = t330) = false := by simpa using c32))
                      (try (have c32b2 : (t323 == t330) = false := by simpa using c32))
                      (try (have c32b3 : ¬ (t323 = t330) := by simpa using c32))
                      clear c32
                      obtain rfl := Option.some.inj H
                      have p321 : 0 ≤ (x16_1 : Int) := of_decide_eq_true (by first | (with_reducible assumption) | assumption)
                      have q321 : x16_1 < (l4.length : Int) := of_decide_eq_true (by first | (with_reducible assumption) | assumption)
                      obtain ⟨ad321, e321, hx321_0⟩ := Kd.at_int HR4.out x16_1 p321 q321
                      cases e321
                      replace hx321_0 := (HB.out.cell (World.block_lt_of_cell? w _ hx321_0)).trans hx321_0
                      replace p321 := eq_true p321
                      replace q321 := eq_true q321
                      try go_wp2
                      have n0_ := Aside0.mk (IsS44.drew HI278.out)
                      have n1_ := Aside0.mk (IsS44.drew HI284.out)
                      have n2_ := Aside0.mk (below_drew1 HB.out)
                      clear HI278
                      clear HI284
                      clear HB
                      have HI278 := n0_
                      have HI284 := n1_
                      have HB := n2_
                      clear n0_ n1_ n2_
                      have p322 : 0 ≤ (x16_1 : Int) := of_decide_eq_true (by first | (with_reducible assumption) | assumption)
                      have q322 : x16_1 < (l3.length : Int) := of_decide_eq_true (by first | (with_reducible assumption) | assumption)
                      obtain ⟨ad322, e322, hx322_0⟩ := Kd.at_bool HR3.out x16_1 p322 q322
                      have hw322_0 := hx322_0
                      cases e322
                      replace hx322_0 := (HB.out.cell (World.block_lt_of_cell? w _ hx322_0)).trans hx322_0
                      replace p322 := eq_true p322
                      replace q322 := eq_true q322
                      have p329 : 0 ≤ (x16_1 : Int) := of_decide_eq_true (by first | (with_reducible assumption) | assumption)
                      have q329 : x16_1 < (l3.length : Int) := of_decide_eq_true (by first | (with_reducible assumption) | assumption)
                      obtain ⟨ad329, e329, hx329_0⟩ := Kd.at_bool HR3.out x16_1 p329 q329
                      have hw329_0 := hx329_0
                      obtain rfl : ad322 = ad329 := (by injection e329)
                      replace hx329_0 := (HB.out.cell (World.block_lt_of_cell? w _ hx329_0)).trans hx329_0
                      replace p329 := eq_true p329
                      replace q329 := eq_true q329
                      refine start_ (n := 15) (S := fun w' => w'.cell? (ad322.add (x16_1).toNat) = some (.bool (rdOf false l3 x16_1)) ∧ w'.cell? (ad322.add (x16_1).toNat) = some (.bool (rdOf false l3 x16_1))) (ds := []) #[false, false, false, false, false, false, false, false, false, false, false, false, false, false, false] (by kernel_rfl) rfl rfl ⟨((HB.out.cell (World.block_lt_of_cell? w _ hw322_0)).trans hw322_0), ((HB.out.cell (World.block_lt_of_cell? w _ hw329_0)).trans hw329_0)⟩ (fun hHeld => ?_); refine with_tabW watchkeeperlaw12_DelayBack.tab16 watchkeeperlaw12_DelayBack.bits16 (fun HT_ HW_ => ?_)
                      generalize wc.drew = w33 at HI278 HI284 HB hx322_0 hx329_0 hHeld ⊢
                      refine pure_ (i := 0) (N := some 96) (v := ?_) (a' := ?_) #[true, false, false, false, false, false, false, false, false, false, false, false, false, false, false] rfl rfl (any_of HT_.out (by kernel_rfl)) (fun _ _ _ h => h) (Or.inl ⟨by rfl, ?_⟩) ?_ ?_
                      rotate_left
                      · intro w'
                        go_simp
                        with_reducible rfl
                      rotate_left
                      · simp only [Act.put, List.setIfInBounds_toArray, List.set_cons_zero, List.set_cons_succ, i64_w, i32_w]
                        rfl
                      refine pure_ (i := 1) (N := some 97) (v := ?_) (a' := ?_) #[true, true, false, false, false, false, false, false, false, false, false, false, false, false, false] rfl rfl (any_of HT_.out (by kernel_rfl)) (fun _ _ _ h => h) (Or.inl ⟨by rfl, ?_⟩) ?_ ?_
                      rotate_left
                      · intro w'
                        go_simp
                        with_reducible rfl
                      rotate_left
                      · simp only [Act.put, List.setIfInBounds_toArray, List.set_cons_zero, List.set_cons_succ, i64_w, i32_w]
                        rfl
                      refine pure_ (i := 2) (N := some 98) (v := ?_) (a' := ?_) #[true, true, true, false, false, false, false, false, false, false, false, false, false, false, false] rfl rfl (any_of HT_.out (by kernel_rfl)) (fun _ _ _ h => h) (Or.inl ⟨by rfl, ?_⟩) ?_ ?_
                      rotate_left
                      · intro w'
                        go_simp
                        with_reducible rfl
                      rotate_left
                      · simp only [Act.put, List.setIfInBounds_toArray, List.set_cons_zero, List.set_cons_succ, i64_w, i32_w]
                        rfl
                      refine pure_ (i := 3) (N := some 99) (v := ?_) (a' := ?_) #[true, true, true, true, false, false, false, false, false, false, false, false, false, false, false] rfl rfl (any_of HT_.out (by kernel_rfl)) (fun _ _ _ h => h) (Or.inl ⟨by rfl, ?_⟩) ?_ ?_
                      rotate_left
                      · intro w'
                        go_simp
                        with_reducible rfl
                      rotate_left
                      · simp only [Act.put, List.setIfInBounds_toArray, List.set_cons_zero, List.set_cons_succ, i64_w, i32_w]
                        rfl
                      refine pure_ (i := 5) (N := some 101) (v := ?_) (a' := ?_) #[true, true, true, true, false, true, false, false, false, false, false, false, false, false, false] rfl rfl (any_of HT_.out (by kernel_rfl)) (fun _ _ _ h => h) (Or.inl ⟨by rfl, ?_⟩) ?_ ?_
                      rotate_left
                      · intro w'
                        go_simp
                        with_reducible rfl
                      rotate_left
                      · simp only [Act.put, List.setIfInBounds_toArray, List.set_cons_zero, List.set_cons_succ, i64_w, i32_w]
                        rfl
                      refine pure_ (i := 7) (N := some 103) (v := ?_) (a' := ?_) #[true, true, true, true, false, true, false, true, false, false, false, false, false, false, false] rfl rfl (any_of HT_.out (by kernel_rfl)) (fun _ _ _ h => h) (Or.inl ⟨by rfl, ?_⟩) ?_ ?_
                      rotate_left
                      · intro w'
                        go_simp
                        with_reducible rfl
                      rotate_left
                      · simp only [Act.put, List.setIfInBounds_toArray, List.set_cons_zero, List.set_cons_succ, i64_w, i32_w]
                        rfl
                      refine pure_ (i := 8) (N := some 104) (v := ?_) (a' := ?_) #[true, true, true, true, false, true, false, true, true, false, false, false, false, false, false] rfl rfl (any_of HT_.out (by kernel_rfl)) (fun _ _ _ h => h) (Or.inl ⟨by rfl, ?_⟩) ?_ ?_
                      rotate_left
                      · intro w'
                        go_simp
                        with_reducible rfl
                      rotate_left
                      · simp only [Act.put, List.setIfInBounds_toArray, List.set_cons_zero, List.set_cons_succ, i64_w, i32_w]
                        rfl
                      refine pure_ (i := 9) (N := some 105) (v := ?_) (a' := ?_) #[true, true, true, true, false, true, false, true, true, true, false, false, false, false, false] rfl rfl (any_of HT_.out (by kernel_rfl)) (fun _ _ _ h => h) (Or.inl ⟨by rfl, ?_⟩) ?_ ?_
                      rotate_left
                      · intro w'
                        go_simp
                        with_reducible rfl
                      rotate_left
                      · simp only [Act.put, List.setIfInBounds_toArray, List.set_cons_zero, List.set_cons_succ, i64_w, i32_w]
                        rfl
                      refine pure_ (i := 10) (N := some 106) (v := ?_) (a' := ?_) #[true, true, true, true, false, true, false, true, true, true, true, false, false, false, false] rfl rfl (any_of HT_.out (by kernel_rfl)) (fun _ _ _ h => h) (Or.inl ⟨by rfl, ?_⟩) ?_ ?_
                      rotate_left
                      · intro w'
                        go_simp
                        with_reducible rfl
                      rotate_left
                      · simp only [Act.put, List.setIfInBounds_toArray, List.set_cons_zero, List.set_cons_succ, i64_w, i32_w]
                        rfl
                      refine pure_ (i := 12) (N := some 108) (v := ?_) (a' := ?_) #[true, true, true, true, false, true, false, true, true, true, true, false, true, false, false] rfl rfl (any_of HT_.out (by kernel_rfl)) (fun _ _ _ h => h) (Or.inl ⟨by rfl, ?_⟩) ?_ ?_
                      rotate_left
                      · intro w'
                        go_simp
                        with_reducible rfl
                      rotate_left
                      · simp only [Act.put, List.setIfInBounds_toArray, List.set_cons_zero, List.set_cons_succ, i64_w, i32_w]
                        rfl
                      refine take_ (i := 4) (N := some 100) (v := ?_) (a' := ?_) #[true, true, true, true, true, true, false, true, true, true, true, false, true, false, false] rfl rfl (take_ofW HT_.out HW_.out (by kernel_rfl)) (fun _ _ _ h => h) (Or.inl ⟨by rfl, ?_⟩) hHeld ?_ ?_
                      rotate_left
                      · rintro w' ⟨s0, s1⟩
                        go_simp
                        with_reducible rfl
                      rotate_left
                      · simp only [Act.put, List.setIfInBounds_toArray, List.set_cons_zero, List.set_cons_succ, i64_w, i32_w]
                        rfl
                      refine take_ (i := 11) (N := some 107) (v := ?_) (a' := ?_) #[true, true, true, true, true, true, false, true, true, true, true, true, true, false, false] rfl rfl (take_ofW HT_.out HW_.out (by kernel_rfl)) (fun _ _ _ h => h) (Or.inl ⟨by rfl, ?_⟩) hHeld ?_ ?_
                      rotate_left
                      · rintro w' ⟨s0, s1⟩
                        go_simp
                        with_reducible rfl
                      rotate_left
                      · simp only [Act.put, List.setIfInBounds_toArray, List.set_cons_zero, List.set_cons_succ, i64_w, i32_w]
                        rfl
                      refine one_ (i := 6) (N := some 102) #[true, true, true, true, true, true, true, true, true, true, true, true, true, false, false] rfl rfl (one_of HT_.out (by kernel_rfl)) (by decide) (fun K hK => ?_)
                      refine goes_ Try.func11 (by kernel_rfl) rfl #[.pointer (some ⟨g278, 0, none⟩), .bool (rdOf false l3 x16_1), .int .i64 (wrap64 (x15_1 + (wrap64 (rd l4 x16_1))))] (by rfl) rfl rfl (by (try simp only [List.map_toArray, List.map_cons, List.map_nil]); first | done | rfl | (simp only [List.length_drop, List.length_take]; rfl)) ?_
                      with_reducible refine (delay_Delay_See.calls g278 x279000_1 x279001_1 x279002_1 x279003_1 x279004_1 (rdOf false l3 x16_1) (wrap64 (x15_1 + (wrap64 (rd l4 x16_1)))) t323 t324 t325 t326 t327 t328 w _ ?side1 ?side2 A30.out).mono ?_
                      (case side1 => repeat (first | (with_reducible first | exact HI278.out | apply IsS44.alloc | apply IsS44.drewN | apply IsS44.drew | apply IsS44.set_0 | apply IsS44.set_1 | apply IsS44.set_2 | apply IsS44.set_3 | apply IsS44.set_4) | exact HI278.out))
                      (case side2 => repeat (first | (with_reducible first | exact HB.out | apply below_alloc | apply pw_below_drewN | apply below_drew1 | refine below_set ?_ (IsS44.ge HI278.out) | refine below_set ?_ (IsS44.ge HI284.out)) | exact HB.out))
                      rintro e w34 ⟨rfl, hi, hb, hk⟩
                      refine ⟨_, rfl, ?_⟩
                      have n0_ := Aside0.mk (IsS44.keepg (show IsS44 w _ g284 x285000_1 x285001_1 x285002_1 x285003_1 x285004_1 from by repeat (first | (with_reducible first | exact HI284.out | apply IsS44.alloc | apply IsS44.drewN | apply IsS44.drew | apply IsS44.set_0 | apply IsS44.set_1 | apply IsS44.set_2 | apply IsS44.set_3 | apply IsS44.set_4) | exact HI284.out)) hk NS284_278.out)
                      have n1_ := Aside0.mk (hb)
                      have n2_ := Aside0.mk (hi)
                      clear HI284
                      clear HB
                      clear HI278
                      have HI284 := n0_
                      have HB := n1_
                      have HI278 := n2_
                      clear n0_ n1_ n2_
                      (try clear hb)
                      (try clear hb2)
                      (try clear hgn)
                      (try clear hk)
                      (try clear hi)
                      refine hK.out _ _ ⟨((HB.out.cell (World.block_lt_of_cell? w _ hw322_0)).trans hw322_0), ((HB.out.cell (World.block_lt_of_cell? w _ hw329_0)).trans hw329_0)⟩ (fun hHeld => ?_)
                      clear hK K
                      refine norm_ (a' := ?_) ?_ ?_
                      rotate_left
                      · show Act.put _ (some 102) _ = _
                        simp only [Act.put, List.setIfInBounds_toArray, List.set_cons_zero, List.set_cons_succ, i64_w, i32_w]
                        rfl
                      refine one_ (i := 13) (N := some 109) #[true, true, true, true, true, true, true, true, true, true, true, true, true, true, false] rfl rfl (one_of HT_.out (by kernel_rfl)) (by decide) (fun K hK => ?_)
                      refine goes_ Try.func11 (by kernel_rfl) rfl #[.pointer (some ⟨g284, 0, none⟩), .bool (rdOf false l3 x16_1), .int .i64 (wrap64 (x15_1 + (wrap64 (rd l4 x16_1))))] (by rfl) rfl rfl (by (try simp only [List.map_toArray, List.map_cons, List.map_nil]); first | done | rfl | (simp only [List.length_drop, List.length_take]; rfl)) ?_
                      with_reducible refine (delay_Delay_See.calls g284 x285000_1 x285001_1 x285002_1 x285003_1 x285004_1 (rdOf false l3 x16_1) (wrap64 (x15_1 + (wrap64 (rd l4 x16_1)))) t330 t331 t332 t333 t334 t335 w _ ?side1 ?side2 A31.out).mono ?_
                      (case side1 => repeat (first | (with_reducible first | exact HI284.out | apply IsS44.alloc | apply IsS44.drewN | apply IsS44.drew | apply IsS44.set_0 | apply IsS44.set_1 | apply IsS44.set_2 | apply IsS44.set_3 | apply IsS44.set_4) | exact HI284.out))
                      (case side2 => repeat (first | (with_reducible first | exact HB.out | apply below_alloc | apply pw_below_drewN | apply below_drew1 | refine below_set ?_ (IsS44.ge HI278.out) | refine below_set ?_ (IsS44.ge HI284.out)) | exact HB.out))
                      rintro e w35 ⟨rfl, hi, hb, hk⟩
                      refine ⟨_, rfl, ?_⟩
                      have n0_ := Aside0.mk (IsS44.keepg (show IsS44 w _ g278 t324 t325 t326 t327 t328 from by repeat (first | (with_reducible first | exact HI278.out | apply IsS44.alloc | apply IsS44.drewN | apply IsS44.drew | apply IsS44.set_0 | apply IsS44.set_1 | apply IsS44.set_2 | apply IsS44.set_3 | apply IsS44.set_4) | exact HI278.out)) hk NS278_284.out)
                      have n1_ := Aside0.mk (hb)
                      have n2_ := Aside0.mk (hi)
                      clear HI278
                      clear HB
                      clear HI284
                      have HI278 := n0_
                      have HB := n1_
                      have HI284 := n2_
                      clear n0_ n1_ n2_
                      (try clear hb)
                      (try clear hb2)
                      (try clear hgn)
                      (try clear hk)
                      (try clear hi)
                      refine hK.out _ _ ⟨((HB.out.cell (World.block_lt_of_cell? w _ hw322_0)).trans hw322_0), ((HB.out.cell (World.block_lt_of_cell? w _ hw329_0)).trans hw329_0)⟩ (fun hHeld => ?_)
                      clear hK K
                      refine norm_ (a' := ?_) ?_ ?_
                      rotate_left
                      · show Act.put _ (some 109) _ = _
                        simp only [Act.put, List.setIfInBounds_toArray, List.set_cons_zero, List.set_cons_succ, i64_w, i32_w]
                        rfl
                      refine pure_ (i := 14) (N := some 110) (v := ?_) (a' := ?_) #[true, true, true, true, true, true, true, true, true, true, true, true, true, true, true] rfl rfl (any_of HT_.out (by kernel_rfl)) (fun _ _ _ h => h) (Or.inl ⟨by rfl, ?_⟩) ?_ ?_
                      rotate_left
                      · intro w'
                        go_simp
                        with_reducible rfl
                      rotate_left
                      · simp only [Act.put, List.setIfInBounds_toArray, List.set_cons_zero, List.set_cons_succ, i64_w, i32_w]
                        rfl
                      refine done_ (done_of HT_.out (by kernel_rfl)) ?_
                      try go_wp2
                      go_ret
                      exact ⟨by first | rfl | (simp [errW_none, errW_some] <;> rfl) | (simp [*, errW_none, errW_some] <;> rfl), by repeat (first | (with_reducible first | exact HB.out | apply below_alloc | apply pw_below_drewN | apply below_drew1 | refine below_set ?_ (IsS44.ge HI278.out) | refine below_set ?_ (IsS44.ge HI284.out)) | exact HB.out)⟩
                    · rw [if_neg c32] at H
                      have c32b0 : (t323 != t330) = false := by simpa using c32
                      (try (have c32b1 : decide (t323 = t330) = true := by simpa using c32))
                      (try (have c32b2 : (t323 == t330) = true := by simpa using c32))
                      clear c32
                      have H' := Aside0.mk H
                      clear H
                      have p321 : 0 ≤ (x16_1 : Int) := of_decide_eq_true (by first | (with_reducible assumption) | assumption)
                      have q321 : x16_1 < (l4.length : Int) := of_decide_eq_true (by first | (with_reducible assumption) | assumption)
                      obtain ⟨ad321, e321, hx321_0⟩ := Kd.at_int HR4.out x16_1 p321 q321
                      cases e321
                      replace hx321_0 := (HB.out.cell (World.block_lt_of_cell? w _ hx321_0)).trans hx321_0
                      replace p321 := eq_true p321
                      replace q321 := eq_true q321
                      try go_wp2
                      have n0_ := Aside0.mk (IsS44.drew HI278.out)
                      have n1_ := Aside0.mk (IsS44.drew HI284.out)
                      have n2_ := Aside0.mk (below_drew1 HB.out)
                      clear HI278
                      clear HI284
                      clear HB
                      have HI278 := n0_
                      have HI284 := n1_
                      have HB := n2_
                      clear n0_ n1_ n2_
                      have p322 : 0 ≤ (x16_1 : Int) := of_decide_eq_true (by first | (with_reducible assumption) | assumption)
                      have q322 : x16_1 < (l3.length : Int) := of_decide_eq_true (by first | (with_reducible assumption) | assumption)
                      obtain ⟨ad322, e322, hx322_0⟩ := Kd.at_bool HR3.out x16_1 p322 q322
                      have hw322_0 := hx322_0
                      cases e322
                      replace hx322_0 := (HB.out.cell (World.block_lt_of_cell? w _ hx322_0)).trans hx322_0
                      replace p322 := eq_true p322
                      replace q322 := eq_true q322
                      have p329 : 0 ≤ (x16_1 : Int) := of_decide_eq_true (by first | (with_reducible assumption) | assumption)
                      have q329 : x16_1 < (l3.length : Int) := of_decide_eq_true (by first | (with_reducible assumption) | assumption)
                      obtain ⟨ad329, e329, hx329_0⟩ := Kd.at_bool HR3.out x16_1 p329 q329
                      have hw329_0 := hx329_0
                      obtain rfl : ad322 = ad329 := (by injection e329)
                      replace hx329_0 := (HB.out.cell (World.block_lt_of_cell? w _ hx329_0)).trans hx329_0
                      replace p329 := eq_true p329
                      replace q329 := eq_true q329
                      refine start_ (n := 15) (S := fun w' => w'.cell? (ad322.add (x16_1).toNat) = some (.bool (rdOf false l3 x16_1)) ∧ w'.cell? (ad322.add (x16_1).toNat) = some (.bool (rdOf false l3 x16_1))) (ds := []) #[false, false, false, false, false, false, false, false, false, false, false, false, false, false, false] (by kernel_rfl) rfl rfl ⟨((HB.out.cell (World.block_lt_of_cell? w _ hw322_0)).trans hw322_0), ((HB.out.cell (World.block_lt_of_cell? w _ hw329_0)).trans hw329_0)⟩ (fun hHeld => ?_); refine with_tabW watchkeeperlaw12_DelayBack.tab16 watchkeeperlaw12_DelayBack.bits16 (fun HT_ HW_ => ?_)
                      generalize wc.drew = w36 at HI278 HI284 HB hx322_0 hx329_0 hHeld ⊢
                      refine pure_ (i := 0) (N := some 96) (v := ?_) (a' := ?_) #[true, false, false, false, false, false, false, false, false, false, false, false, false, false, false] rfl rfl (any_of HT_.out (by kernel_rfl)) (fun _ _ _ h => h) (Or.inl ⟨by rfl, ?_⟩) ?_ ?_
                      rotate_left
                      · intro w'
                        go_simp
                        with_reducible rfl
                      rotate_left
                      · simp only [Act.put, List.setIfInBounds_toArray, List.set_cons_zero, List.set_cons_succ, i64_w, i32_w]
                        rfl
                      refine pure_ (i := 1) (N := some 97) (v := ?_) (a' := ?_) #[true, true, false, false, false, false, false, false, false, false, false, false, false, false, false] rfl rfl (any_of HT_.out (by kernel_rfl)) (fun _ _ _ h => h) (Or.inl ⟨by rfl, ?_⟩) ?_ ?_
                      rotate_left
                      · intro w'
                        go_simp
                        with_reducible rfl
                      rotate_left
                      · simp only [Act.put, List.setIfInBounds_toArray, List.set_cons_zero, List.set_cons_succ, i64_w, i32_w]
                        rfl
                      refine pure_ (i := 2) (N := some 98) (v := ?_) (a' := ?_) #[true, true, true, false, false, false, false, false, false, false, false, false, false, false, false] rfl rfl (any_of HT_.out (by kernel_rfl)) (fun _ _ _ h => h) (Or.inl ⟨by rfl, ?_⟩) ?_ ?_
                      rotate_left
                      · intro w'
                        go_simp
                        with_reducible rfl
                      rotate_left
                      · simp only [Act.put, List.setIfInBounds_toArray, List.set_cons_zero, List.set_cons_succ, i64_w, i32_w]
                        rfl
                      refine pure_ (i := 3) (N := some 99) (v := ?_) (a' := ?_) #[true, true, true, true, false, false, false, false, false, false, false, false, false, false, false] rfl rfl (any_of HT_.out (by kernel_rfl)) (fun _ _ _ h => h) (Or.inl ⟨by rfl, ?_⟩) ?_ ?_
                      rotate_left
                      · intro w'
                        go_simp
                        with_reducible rfl
                      rotate_left
                      · simp only [Act.put, List.setIfInBounds_toArray, List.set_cons_zero, List.set_cons_succ, i64_w, i32_w]
                        rfl
                      refine pure_ (i := 5) (N := some 101) (v := ?_) (a' := ?_) #[true, true, true, true, false, true, false, false, false, false, false, false, false, false, false] rfl rfl (any_of HT_.out (by kernel_rfl)) (fun _ _ _ h => h) (Or.inl ⟨by rfl, ?_⟩) ?_ ?_
                      rotate_left
                      · intro w'
                        go_simp
                        with_reducible rfl
                      rotate_left
                      · simp only [Act.put, List.setIfInBounds_toArray, List.set_cons_zero, List.set_cons_succ, i64_w, i32_w]
                        rfl
                      refine pure_ (i := 7) (N := some 103) (v := ?_) (a' := ?_) #[true, true, true, true, false, true, false, true, false, false, false, false, false, false, false] rfl rfl (any_of HT_.out (by kernel_rfl)) (fun _ _ _ h => h) (Or.inl ⟨by rfl, ?_⟩) ?_ ?_
                      rotate_left
                      · intro w'
                        go_simp
                        with_reducible rfl
                      rotate_left
                      · simp only [Act.put, List.setIfInBounds_toArray, List.set_cons_zero, List.set_cons_succ, i64_w, i32_w]
                        rfl
                      refine pure_ (i := 8) (N := some 104) (v := ?_) (a' := ?_) #[true, true, true, true, false, true, false, true, true, false, false, false, false, false, false] rfl rfl (any_of HT_.out (by kernel_rfl)) (fun _ _ _ h => h) (Or.inl ⟨by rfl, ?_⟩) ?_ ?_
                      rotate_left
                      · intro w'
                        go_simp
                        with_reducible rfl
                      rotate_left
                      · simp only [Act.put, List.setIfInBounds_toArray, List.set_cons_zero, List.set_cons_succ, i64_w, i32_w]
                        rfl
                      refine pure_ (i := 9) (N := some 105) (v := ?_) (a' := ?_) #[true, true, true, true, false, true, false, true, true, true, false, false, false, false, false] rfl rfl (any_of HT_.out (by kernel_rfl)) (fun _ _ _ h => h) (Or.inl ⟨by rfl, ?_⟩) ?_ ?_
                      rotate_left
                      · intro w'
                        go_simp
                        with_reducible rfl
                      rotate_left
                      · simp only [Act.put, List.setIfInBounds_toArray, List.set_cons_zero, List.set_cons_succ, i64_w, i32_w]
                        rfl
                      refine pure_ (i := 10) (N := some 106) (v := ?_) (a' := ?_) #[true, true, true, true, false, true, false, true, true, true, true, false, false, false, false] rfl rfl (any_of HT_.out (by kernel_rfl)) (fun _ _ _ h => h) (Or.inl ⟨by rfl, ?_⟩) ?_ ?_
                      rotate_left
                      · intro w'
                        go_simp
                        with_reducible rfl
                      rotate_left
                      · simp only [Act.put, List.setIfInBounds_toArray, List.set_cons_zero, List.set_cons_succ, i64_w, i32_w]
                        rfl
                      refine pure_ (i := 12) (N := some 108) (v := ?_) (a' := ?_) #[true, true, true, true, false, true, false, true, true, true, true, false, true, false, false] rfl rfl (any_of HT_.out (by kernel_rfl)) (fun _ _ _ h => h) (Or.inl ⟨by rfl, ?_⟩) ?_ ?_
                      rotate_left
                      · intro w'
                        go_simp
                        with_reducible rfl
                      rotate_left
                      · simp only [Act.put, List.setIfInBounds_toArray, List.set_cons_zero, List.set_cons_succ, i64_w, i32_w]
                        rfl
                      refine take_ (i := 4) (N := some 100) (v := ?_) (a' := ?_) #[true, true, true, true, true, true, false, true, true, true, true, false, true, false, false] rfl rfl (take_ofW HT_.out HW_.out (by kernel_rfl)) (fun _ _ _ h => h) (Or.inl ⟨by rfl, ?_⟩) hHeld ?_ ?_
                      rotate_left
                      · rintro w' ⟨s0, s1⟩
                        go_simp
                        with_reducible rfl
                      rotate_left
                      · simp only [Act.put, List.setIfInBounds_toArray, List.set_cons_zero, List.set_cons_succ, i64_w, i32_w]
                        rfl
                      refine take_ (i := 11) (N := some 107) (v := ?_) (a' := ?_) #[true, true, true, true, true, true, false, true, true, true, true, true, true, false, false] rfl rfl (take_ofW HT_.out HW_.out (by kernel_rfl)) (fun _ _ _ h => h) (Or.inl ⟨by rfl, ?_⟩) hHeld ?_ ?_
                      rotate_left
                      · rintro w' ⟨s0, s1⟩
                        go_simp
                        with_reducible rfl
                      rotate_left
                      · simp only [Act.put, List.setIfInBounds_toArray, List.set_cons_zero, List.set_cons_succ, i64_w, i32_w]
                        rfl
                      refine one_ (i := 6) (N := some 102) #[true, true, true, true, true, true, true, true, true, true, true, true, true, false, false] rfl rfl (one_of HT_.out (by kernel_rfl)) (by decide) (fun K hK => ?_)
                      refine goes_ Try.func11 (by kernel_rfl) rfl #[.pointer (some ⟨g278, 0, none⟩), .bool (rdOf false l3 x16_1), .int .i64 (wrap64 (x15_1 + (wrap64 (rd l4 x16_1))))] (by rfl) rfl rfl (by (try simp only [List.map_toArray, List.map_cons, List.map_nil]); first | done | rfl | (simp only [List.length_drop, List.length_take]; rfl)) ?_
                      with_reducible refine (delay_Delay_See.calls g278 x279000_1 x279001_1 x279002_1 x279003_1 x279004_1 (rdOf false l3 x16_1) (wrap64 (x15_1 + (wrap64 (rd l4 x16_1)))) t323 t324 t325 t326 t327 t328 w _ ?side1 ?side2 A30.out).mono ?_
                      (case side1 => repeat (first | (with_reducible first | exact HI278.out | apply IsS44.alloc | apply IsS44.drewN | apply IsS44.drew | apply IsS44.set_0 | apply IsS44.set_1 | apply IsS44.set_2 | apply IsS44.set_3 | apply IsS44.set_4) | exact HI278.out))
                      (case side2 => repeat (first | (with_reducible first | exact HB.out | apply below_alloc | apply pw_below_drewN | apply below_drew1 | refine below_set ?_ (IsS44.ge HI278.out) | refine below_set ?_ (IsS44.ge HI284.out)) | exact HB.out))
                      rintro e w37 ⟨rfl, hi, hb, hk⟩
                      refine ⟨_, rfl, ?_⟩
                      have n0_ := Aside0.mk (IsS44.keepg (show IsS44 w _ g284 x285000_1 x285001_1 x285002_1 x285003_1 x285004_1 from by repeat (first | (with_reducible first | exact HI284.out | apply IsS44.alloc | apply IsS44.drewN | apply IsS44.drew | apply IsS44.set_0 | apply IsS44.set_1 | apply IsS44.set_2 | apply IsS44.set_3 | apply IsS44.set_4) | exact HI284.out)) hk NS284_278.out)
                      have n1_ := Aside0.mk (hb)
                      have n2_ := Aside0.mk (hi)
                      clear HI284
                      clear HB
                      clear HI278
                      have HI284 := n0_
                      have HB := n1_
                      have HI278 := n2_
                      clear n0_ n1_ n2_
                      (try clear hb)
                      (try clear hb2)
                      (try clear hgn)
                      (try clear hk)
                      (try clear hi)
                      refine hK.out _ _ ⟨((HB.out.cell (World.block_lt_of_cell? w _ hw322_0)).trans hw322_0), ((HB.out.cell (World.block_lt_of_cell? w _ hw329_0)).trans hw329_0)⟩ (fun hHeld => ?_)
                      clear hK K
                      refine norm_ (a' := ?_) ?_ ?_
                      rotate_left
                      · show Act.put _ (some 102) _ = _
                        simp only [Act.put, List.setIfInBounds_toArray, List.set_cons_zero, List.set_cons_succ, i64_w, i32_w]
                        rfl
                      refine one_ (i := 13) (N := some 109) #[true, true, true, true, true, true, true, true, true, true, true, true, true, true, false] rfl rfl (one_of HT_.out (by kernel_rfl)) (by decide) (fun K hK => ?_)
                      refine goes_ Try.func11 (by kernel_rfl) rfl #[.pointer (some ⟨g284, 0, none⟩), .bool (rdOf false l3 x16_1), .int .i64 (wrap64 (x15_1 + (wrap64 (rd l4 x16_1))))] (by rfl) rfl rfl (by (try simp only [List.map_toArray, List.map_cons, List.map_nil]); first | done | rfl | (simp only [List.length_drop, List.length_take]; rfl)) ?_
                      with_reducible refine (delay_Delay_See.calls g284 x285000_1 x285001_1 x285002_1 x285003_1 x285004_1 (rdOf false l3 x16_1) (wrap64 (x15_1 + (wrap64 (rd l4 x16_1)))) t330 t331 t332 t333 t334 t335 w _ ?side1 ?side2 A31.out).mono ?_
                      (case side1 => repeat (first | (with_reducible first | exact HI284.out | apply IsS44.alloc | apply IsS44.drewN | apply IsS44.drew | apply IsS44.set_0 | apply IsS44.set_1 | apply IsS44.set_2 | apply IsS44.set_3 | apply IsS44.set_4) | exact HI284.out))
                      (case side2 => repeat (first | (with_reducible first | exact HB.out | apply below_alloc | apply pw_below_drewN | apply below_drew1 | refine below_set ?_ (IsS44.ge HI278.out) | refine below_set ?_ (IsS44.ge HI284.out)) | exact HB.out))
                      rintro e w38 ⟨rfl, hi, hb, hk⟩
                      refine ⟨_, rfl, ?_⟩
                      have n0_ := Aside0.mk (IsS44.keepg (show IsS44 w _ g278 t324 t325 t326 t327 t328 from by repeat (first | (with_reducible first | exact HI278.out | apply IsS44.alloc | apply IsS44.drewN | apply IsS44.drew | apply IsS44.set_0 | apply IsS44.set_1 | apply IsS44.set_2 | apply IsS44.set_3 | apply IsS44.set_4) | exact HI278.out)) hk NS278_284.out)
                      have n1_ := Aside0.mk (hb)
                      have n2_ := Aside0.mk (hi)
                      clear HI278
                      clear HB
                      clear HI284
                      have HI278 := n0_
                      have HB := n1_
                      have HI284 := n2_
                      clear n0_ n1_ n2_
                      (try clear hb)
                      (try clear hb2)
                      (try clear hgn)
                      (try clear hk)
                      (try clear hi)
                      refine hK.out _ _ ⟨((HB.out.cell (World.block_lt_of_cell? w _ hw322_0)).trans hw322_0), ((HB.out.cell (World.block_lt_of_cell? w _ hw329_0)).trans hw329_0)⟩ (fun hHeld => ?_)
                      clear hK K
                      refine norm_ (a' := ?_) ?_ ?_
                      rotate_left
                      · show Act.put _ (some 109) _ = _
                        simp only [Act.put, List.setIfInBounds_toArray, List.set_cons_zero, List.set_cons_succ, i64_w, i32_w]
                        rfl
                      refine pure_ (i := 14) (N := some 110) (v := ?_) (a' := ?_) #[true, true, true, true, true, true, true, true, true, true, true, true, true, true, true] rfl rfl (any_of HT_.out (by kernel_rfl)) (fun _ _ _ h => h) (Or.inl ⟨by rfl, ?_⟩) ?_ ?_
                      rotate_left
                      · intro w'
                        go_simp
                        with_reducible rfl
                      rotate_left
                      · simp only [Act.put, List.setIfInBounds_toArray, List.set_cons_zero, List.set_cons_succ, i64_w, i32_w]
                        rfl
                      refine done_ (done_of HT_.out (by kernel_rfl)) ?_
                      try go_wp2
                      go_roundg kj23
                      case measure => have := HK1.out; have := HJ23.out; omega
                      case rel => exact ⟨(wrap64 (x15_1 + (wrap64 (rd l4 x16_1)))), (wrap64 (x16_1 + 1)), (t324), (t325), (t326), (t327), (t328), (t331), (t332), (t333), (t334), (t335), (by first | rfl | (simp; done) | (simp [*]; done)), (by first | rfl | (simp; done) | (simp [*]; done)), H', ⟨by have := HK1.out; have := HJ23.out; omega⟩, ⟨by repeat (first | (with_reducible first | exact HI278.out | apply IsS44.alloc | apply IsS44.drewN | apply IsS44.drew | apply IsS44.set_0 | apply IsS44.set_1 | apply IsS44.set_2 | apply IsS44.set_3 | apply IsS44.set_4) | exact HI278.out)⟩, ⟨by repeat (first | (with_reducible first | exact HI284.out | apply IsS44.alloc | apply IsS44.drewN | apply IsS44.drew | apply IsS44.set_0 | apply IsS44.set_1 | apply IsS44.set_2 | apply IsS44.set_3 | apply IsS44.set_4) | exact HI284.out)⟩, ⟨by repeat (first | (with_reducible first | exact HB.out | apply below_alloc | apply pw_below_drewN | apply below_drew1 | refine below_set ?_ (IsS44.ge HI278.out) | refine below_set ?_ (IsS44.ge HI284.out)) | exact HB.out)⟩⟩
                  · rw [if_neg c29] at H
                    exact absurd H (by simp)
                · rw [if_neg c28] at H
                  exact absurd H (by simp)
              · rw [if_neg c27] at H
                exact absurd H (by simp)
            · replace c26 := Bool.eq_false_iff.mpr c26
              subst c26
              have H1 : (if t272 = true then ((delay_Delay_Value.f x279000_1 x279001_1 x279002_1 x279003_1 x279004_1).bind fun bt309 => ((delay_Delay_Value.f x285000_1 x285001_1 x285002_1 x285003_1 x285004_1).bind fun bt315 => (some (bt309.1 == bt315.1)))) else (some false)) = some r := by rw [if_neg (show ¬ (false = true) by decide)] at H; exact H
              clear H
              have H := H1
              clear H1
              by_cases c39 : t272 = true
              · subst c39
                have H1 : ((delay_Delay_Value.f x279000_1 x279001_1 x279002_1 x279003_1 x279004_1).bind fun bt309 => ((delay_Delay_Value.f x285000_1 x285001_1 x285002_1 x285003_1 x285004_1).bind fun bt315 => (some (bt309.1 == bt315.1)))) = some r := by rw [if_pos rfl] at H; exact H
                clear H
                have H := H1
                clear H1
                replace H := Option.bind_eq_some_iff.mp H
                obtain ⟨⟨t309, t310, t311, t312, t313, t314⟩, A400, H⟩ := H
                replace H : ((delay_Delay_Value.f x285000_1 x285001_1 x285002_1 x285003_1 x285004_1).bind fun bt315 => (some (t309 == bt315.1))) = some r := H
                have A40 := Aside0.mk A400
                clear A400
                replace H := Option.bind_eq_some_iff.mp H
                obtain ⟨⟨t315, t316, t317, t318, t319, t320⟩, A410, H⟩ := H
                replace H : (some (t309 == t315)) = some r := H
                have A41 := Aside0.mk A410
                clear A410
                obtain rfl := Option.some.inj H
                go_wp2_with (first | (go_at_call 15; (with_reducible refine (delay_Delay_Value.calls g278 x279000_1 x279001_1 x279002_1 x279003_1 x279004_1 t309 t310 t311 t312 t313 t314 w _ ?side1 ?side2 A40.out).mono ?_); (case side1 => repeat (first | (with_reducible first | exact HI278.out | apply IsS44.alloc | apply IsS44.drewN | apply IsS44.drew | apply IsS44.set_0 | apply IsS44.set_1 | apply IsS44.set_2 | apply IsS44.set_3 | apply IsS44.set_4) | exact HI278.out)); (case side2 => repeat (first | (with_reducible first | exact HB.out | apply below_alloc | apply pw_below_drewN | apply below_drew1 | refine below_set ?_ (IsS44.ge HI278.out) | refine below_set ?_ (IsS44.ge HI284.out)) | exact HB.out)); rintro e w42 ⟨rfl, hi, hb, hk⟩; have n0_ := Aside0.mk (IsS44.keepg (show IsS44 w _ g284 x285000_1 x285001_1 x285002_1 x285003_1 x285004_1 from by repeat (first | (with_reducible first | exact HI284.out | apply IsS44.alloc | apply IsS44.drewN | apply IsS44.drew | apply IsS44.set_0 | apply IsS44.set_1 | apply IsS44.set_2 | apply IsS44.set_3 | apply IsS44.set_4) | exact HI284.out)) hk NS284_278.out); have n1_ := Aside0.mk (hb); have n2_ := Aside0.mk (hi); clear HI284; clear HB; clear HI278; have HI284 := n0_; have HB := n1_; have HI278 := n2_; clear n0_ n1_ n2_; (try clear hb); (try clear hb2); (try clear hgn); (try clear hk); (try clear hi)) | (go_at_call 15; (with_reducible refine (delay_Delay_Value.calls g284 x285000_1 x285001_1 x285002_1 x285003_1 x285004_1 t315 t316 t317 t318 t319 t320 w _ ?side1 ?side2 A41.out).mono ?_); (case side1 => repeat (first | (with_reducible first | exact HI284.out | apply IsS44.alloc | apply IsS44.drewN | apply IsS44.drew | apply IsS44.set_0 | apply IsS44.set_1 | apply IsS44.set_2 | apply IsS44.set_3 | apply IsS44.set_4) | exact HI284.out)); (case side2 => repeat (first | (with_reducible first | exact HB.out | apply below_alloc | apply pw_below_drewN | apply below_drew1 | refine below_set ?_ (IsS44.ge HI278.out) | refine below_set ?_ (IsS44.ge HI284.out)) | exact HB.out)); rintro e w43 ⟨rfl, hi, hb, hk⟩; have n0_ := Aside0.mk (IsS44.keepg (show IsS44 w _ g278 t310 t311 t312 t313 t314 from by repeat (first | (with_reducible first | exact HI278.out | apply IsS44.alloc | apply IsS44.drewN | apply IsS44.drew | apply IsS44.set_0 | apply IsS44.set_1 | apply IsS44.set_2 | apply IsS44.set_3 | apply IsS44.set_4) | exact HI278.out)) hk NS278_284.out); have n1_ := Aside0.mk (hb); have n2_ := Aside0.mk (hi); clear HI278; clear HB; clear HI284; have HI278 := n0_; have HB := n1_; have HI284 := n2_; clear n0_ n1_ n2_; (try clear hb); (try clear hb2); (try clear hgn); (try clear hk); (try clear hi)))
                go_ret
                exact ⟨by first | rfl | (simp [errW_none, errW_some] <;> rfl) | (simp [*, errW_none, errW_some] <;> rfl), by repeat (first | (with_reducible first | exact HB.out | apply below_alloc | apply pw_below_drewN | apply below_drew1 | refine below_set ?_ (IsS44.ge HI278.out) | refine below_set ?_ (IsS44.ge HI284.out)) | exact HB.out)⟩
              · replace c39 := Bool.eq_false_iff.mpr c39
                subst c39
                have H1 : (some false) = some r := by rw [if_neg (show ¬ (false = true) by decide)] at H; exact H
                clear H
                have H := H1
                clear H1
                obtain rfl := Option.some.inj H
                go_wp2
                go_ret
                exact ⟨by first | rfl | (simp [errW_none, errW_some] <;> rfl) | (simp [*, errW_none, errW_some] <;> rfl), by repeat (first | (with_reducible first | exact HB.out | apply below_alloc | apply pw_below_drewN | apply below_drew1 | refine below_set ?_ (IsS44.ge HI278.out) | refine below_set ?_ (IsS44.ge HI284.out)) | exact HB.out)⟩

end Go.Proofs.Ytljabocijojceaa.QA
