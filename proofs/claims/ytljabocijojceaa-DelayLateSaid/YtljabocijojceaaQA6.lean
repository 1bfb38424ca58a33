-- Laid by wip/tools/pr.py (a program of this session's) over the kit's printer. Not trusted: Lean checks it.
import Derived.Test.YtljabocijojceaaQA0
import Derived.Test.YtljabocijojceaaQA1
namespace Go.Proofs.Ytljabocijojceaa.QA
open Go.RowKit Go.Proofs.YtljabocijojceaaW.PrintWords Go.Proofs.YtljabocijojceaaW.PrintLast Go.Proofs.YtljabocijojceaaW.PrintMore
attribute [local go_sem] max2_int min2_int max_two min_two max_three min_three max_four min_four   -- for this text's walks alone
set_option linter.unusedVariables false
set_option linter.unusedSimpArgs false

/-! ### watchkeeperlaw12_DelayLate: function 6 -/
def watchkeeperlaw12_DelayLate.j0 : Nat → Int → Int → Bool → Bool → Int → Int → Bool → Int → Int → Int → Int → Bool → Int → Int → Option (Bool)
  | 0, _, _, _, _, _, _, _, _, _, _, _, _, _, _ => none
  | k + 1, x1, x3, x9, x84, x343000, x343001, x343002, x343003, x343004, x349000, x349001, x349002, x349003, x349004 => if x84 = true then (some false) else ((delay_Delay_See.f x343000 x343001 x343002 x343003 x343004 true x3).bind fun bt387 => ((delay_Delay_See.f x349000 x349001 x349002 x349003 x349004 true (mn (mx x3 (wrap64 (x1))) 1099511627776)).bind fun bt393 => (if x9 = true then ((delay_Delay_Value.f bt387.2.1 bt387.2.2.1 bt387.2.2.2.1 bt387.2.2.2.2.1 bt387.2.2.2.2.2).bind fun bt399 => ((delay_Delay_Value.f bt393.2.1 bt393.2.2.1 bt393.2.2.2.1 bt393.2.2.2.2.1 bt393.2.2.2.2.2).bind fun bt405 => (if (bt399.1 == bt405.1) = true then ((delay_Delay_See.f bt399.2.1 bt399.2.2.1 bt399.2.2.2.1 bt399.2.2.2.2.1 bt399.2.2.2.2.2 true 4611686018427387904).bind fun bt411 => (some bt411.1)) else (some false)))) else (some false))))
def watchkeeperlaw12_DelayLate.f (k : Nat) (a0 : Int) (a1 : Int) (a2 : Int) (a3 : Int) : Option (Bool) := (watchkeeperlaw12_head.f).bind fun t336 => ((delay_New.f (wrap64 (a0)) 0).bind fun bt337 => ((delay_New.f (wrap64 (a0)) 0).bind fun bt343 => ((delay_Delay_See.f bt337.1 bt337.2.1 bt337.2.2.1 bt337.2.2.2.1 bt337.2.2.2.2 false (wrap64 (a1))).bind fun bt349 => ((delay_Delay_See.f bt343.1 bt343.2.1 bt343.2.2.1 bt343.2.2.2.1 bt343.2.2.2.2 false (wrap64 (a1))).bind fun bt355 => ((delay_Delay_See.f bt349.2.1 bt349.2.2.1 bt349.2.2.2.1 bt349.2.2.2.2.1 bt349.2.2.2.2.2 true (mn (wrap64 (a1)) (wrap64 (a2)))).bind fun bt361 => ((delay_Delay_See.f bt355.2.1 bt355.2.2.1 bt355.2.2.2.1 bt355.2.2.2.2.1 bt355.2.2.2.2.2 true (wrap64 (a1))).bind fun bt367 => ((delay_Delay_Since.f bt361.2.1 bt361.2.2.1 bt361.2.2.2.1 bt361.2.2.2.2.1 bt361.2.2.2.2.2).bind fun bt373 => ((delay_Delay_Since.f bt367.2.1 bt367.2.2.1 bt367.2.2.2.1 bt367.2.2.2.2.1 bt367.2.2.2.2.2).bind fun bt380 => (if (bt361.1 != bt367.1) = true then (watchkeeperlaw12_DelayLate.j0 k a1 a3 t336 true bt373.2.2.1 bt373.2.2.2.1 bt373.2.2.2.2.1 bt373.2.2.2.2.2.1 bt373.2.2.2.2.2.2 bt380.2.2.1 bt380.2.2.2.1 bt380.2.2.2.2.1 bt380.2.2.2.2.2.1 bt380.2.2.2.2.2.2) else (if bt373.1 = bt380.1 then (if (bt373.2.1 != bt380.2.1) = true then (watchkeeperlaw12_DelayLate.j0 k a1 a3 t336 true bt373.2.2.1 bt373.2.2.2.1 bt373.2.2.2.2.1 bt373.2.2.2.2.2.1 bt373.2.2.2.2.2.2 bt380.2.2.1 bt380.2.2.2.1 bt380.2.2.2.2.1 bt380.2.2.2.2.2.1 bt380.2.2.2.2.2.2) else (if bt361.1 = true then (watchkeeperlaw12_DelayLate.j0 k a1 a3 t336 false bt373.2.2.1 bt373.2.2.2.1 bt373.2.2.2.2.1 bt373.2.2.2.2.2.1 bt373.2.2.2.2.2.2 bt380.2.2.1 bt380.2.2.2.1 bt380.2.2.2.2.1 bt380.2.2.2.2.2.1 bt380.2.2.2.2.2.2) else (watchkeeperlaw12_DelayLate.j0 k a1 a3 t336 (bt373.1 != (wrap64 (a1))) bt373.2.2.1 bt373.2.2.2.1 bt373.2.2.2.2.1 bt373.2.2.2.2.2.1 bt373.2.2.2.2.2.2 bt380.2.2.1 bt380.2.2.2.1 bt380.2.2.2.2.1 bt380.2.2.2.2.2.1 bt380.2.2.2.2.2.2))) else (watchkeeperlaw12_DelayLate.j0 k a1 a3 t336 true bt373.2.2.1 bt373.2.2.2.1 bt373.2.2.2.2.1 bt373.2.2.2.2.2.1 bt373.2.2.2.2.2.2 bt380.2.2.1 bt380.2.2.2.1 bt380.2.2.2.2.1 bt380.2.2.2.2.2.1 bt380.2.2.2.2.2.2)))))))))))
theorem watchkeeperlaw12_DelayLate.mono_l : ∀ k, (∀ y0 y1 y2 y3 y4 y5 y6 y7 y8 y9 y10 y11 y12 y13, LeO (watchkeeperlaw12_DelayLate.j0 k y0 y1 y2 y3 y4 y5 y6 y7 y8 y9 y10 y11 y12 y13) (watchkeeperlaw12_DelayLate.j0 (k + 1) y0 y1 y2 y3 y4 y5 y6 y7 y8 y9 y10 y11 y12 y13))
  | 0 => fun _ _ _ _ _ _ _ _ _ _ _ _ _ _ r h => by simp [watchkeeperlaw12_DelayLate.j0] at h
  | k + 1 => by
    have ih0 := watchkeeperlaw12_DelayLate.mono_l k
    · intro y0 y1 y2 y3 y4 y5 y6 y7 y8 y9 y10 y11 y12 y13
      unfold watchkeeperlaw12_DelayLate.j0
      repeat' first
      | (with_reducible exact ih0 _ _ _ _ _ _ _ _ _ _ _ _ _ _)
      | (with_reducible exact LeO.refl _)
      | (with_reducible exact LeO.none _)
      | (with_reducible refine LeO.ite ?_ ?_)
      | (with_reducible refine LeO.bind ?_ (fun _ => ?_))
      | exact ih0 _ _ _ _ _ _ _ _ _ _ _ _ _ _
      | exact LeO.none _
      | refine LeO.ite ?_ ?_
      | refine LeO.bind ?_ (fun _ => ?_)
theorem watchkeeperlaw12_DelayLate.mono : ∀ a0 a1 a2 a3 k, LeO (watchkeeperlaw12_DelayLate.f k a0 a1 a2 a3) (watchkeeperlaw12_DelayLate.f (k + 1) a0 a1 a2 a3) := by
  intro a0 a1 a2 a3 k
  have ih0 := watchkeeperlaw12_DelayLate.mono_l k
  unfold watchkeeperlaw12_DelayLate.f
  repeat' first
      | (with_reducible exact ih0 _ _ _ _ _ _ _ _ _ _ _ _ _ _)
      | (with_reducible exact LeO.refl _)
      | (with_reducible exact LeO.none _)
      | (with_reducible refine LeO.ite ?_ ?_)
      | (with_reducible refine LeO.bind ?_ (fun _ => ?_))
      | exact ih0 _ _ _ _ _ _ _ _ _ _ _ _ _ _
      | exact LeO.none _
      | refine LeO.ite ?_ ?_
      | refine LeO.bind ?_ (fun _ => ?_)
set_option maxHeartbeats 8000000 in
set_option maxRecDepth 100000 in
theorem watchkeeperlaw12_DelayLate.calls (k : Nat) (a0 : Int) (a1 : Int) (a2 : Int) (a3 : Int) (r : Bool) (w : World) (h : watchkeeperlaw12_DelayLate.f k a0 a1 a2 a3 = some r) :
    Calls Try.prog 6 #[.int .u8 a0, .int .u32 a1, .int .u32 a2, .int .i64 a3] w fun e w' => e = .returned (.bool r) ∧ Below w.heap.size w w' := by
  have HB := Aside0.mk (Below.refl w.heap.size w)
  have H : ((watchkeeperlaw12_head.f).bind fun t336 => ((delay_New.f (wrap64 (a0)) 0).bind fun bt337 => ((delay_New.f (wrap64 (a0)) 0).bind fun bt343 => ((delay_Delay_See.f bt337.1 bt337.2.1 bt337.2.2.1 bt337.2.2.2.1 bt337.2.2.2.2 false (wrap64 (a1))).bind fun bt349 => ((delay_Delay_See.f bt343.1 bt343.2.1 bt343.2.2.1 bt343.2.2.2.1 bt343.2.2.2.2 false (wrap64 (a1))).bind fun bt355 => ((delay_Delay_See.f bt349.2.1 bt349.2.2.1 bt349.2.2.2.1 bt349.2.2.2.2.1 bt349.2.2.2.2.2 true (mn (wrap64 (a1)) (wrap64 (a2)))).bind fun bt361 => ((delay_Delay_See.f bt355.2.1 bt355.2.2.1 bt355.2.2.2.1 bt355.2.2.2.2.1 bt355.2.2.2.2.2 true (wrap64 (a1))).bind fun bt367 => ((delay_Delay_Since.f bt361.2.1 bt361.2.2.1 bt361.2.2.2.1 bt361.2.2.2.2.1 bt361.2.2.2.2.2).bind fun bt373 => ((delay_Delay_Since.f bt367.2.1 bt367.2.2.1 bt367.2.2.2.1 bt367.2.2.2.2.1 bt367.2.2.2.2.2).bind fun bt380 => (if (bt361.1 != bt367.1) = true then (watchkeeperlaw12_DelayLate.j0 k a1 a3 t336 true bt373.2.2.1 bt373.2.2.2.1 bt373.2.2.2.2.1 bt373.2.2.2.2.2.1 bt373.2.2.2.2.2.2 bt380.2.2.1 bt380.2.2.2.1 bt380.2.2.2.2.1 bt380.2.2.2.2.2.1 bt380.2.2.2.2.2.2) else (if bt373.1 = bt380.1 then (if (bt373.2.1 != bt380.2.1) = true then (watchkeeperlaw12_DelayLate.j0 k a1 a3 t336 true bt373.2.2.1 bt373.2.2.2.1 bt373.2.2.2.2.1 bt373.2.2.2.2.2.1 bt373.2.2.2.2.2.2 bt380.2.2.1 bt380.2.2.2.1 bt380.2.2.2.2.1 bt380.2.2.2.2.2.1 bt380.2.2.2.2.2.2) else (if bt361.1 = true then (watchkeeperlaw12_DelayLate.j0 k a1 a3 t336 false bt373.2.2.1 bt373.2.2.2.1 bt373.2.2.2.2.1 bt373.2.2.2.2.2.1 bt373.2.2.2.2.2.2 bt380.2.2.1 bt380.2.2.2.1 bt380.2.2.2.2.1 bt380.2.2.2.2.2.1 bt380.2.2.2.2.2.2) else (watchkeeperlaw12_DelayLate.j0 k a1 a3 t336 (bt373.1 != (wrap64 (a1))) bt373.2.2.1 bt373.2.2.2.1 bt373.2.2.2.2.1 bt373.2.2.2.2.2.1 bt373.2.2.2.2.2.2 bt380.2.2.1 bt380.2.2.2.1 bt380.2.2.2.2.1 bt380.2.2.2.2.2.1 bt380.2.2.2.2.2.2))) else (watchkeeperlaw12_DelayLate.j0 k a1 a3 t336 true bt373.2.2.1 bt373.2.2.2.1 bt373.2.2.2.2.1 bt373.2.2.2.2.2.1 bt373.2.2.2.2.2.2 bt380.2.2.1 bt380.2.2.2.1 bt380.2.2.2.2.1 bt380.2.2.2.2.2.1 bt380.2.2.2.2.2.2)))))))))))) = some r := h
  clear h
  replace H := Option.bind_eq_some_iff.mp H
  obtain ⟨t336, A50, H⟩ := H
  replace H : ((delay_New.f (wrap64 (a0)) 0).bind fun bt337 => ((delay_New.f (wrap64 (a0)) 0).bind fun bt343 => ((delay_Delay_See.f bt337.1 bt337.2.1 bt337.2.2.1 bt337.2.2.2.1 bt337.2.2.2.2 false (wrap64 (a1))).bind fun bt349 => ((delay_Delay_See.f bt343.1 bt343.2.1 bt343.2.2.1 bt343.2.2.2.1 bt343.2.2.2.2 false (wrap64 (a1))).bind fun bt355 => ((delay_Delay_See.f bt349.2.1 bt349.2.2.1 bt349.2.2.2.1 bt349.2.2.2.2.1 bt349.2.2.2.2.2 true (mn (wrap64 (a1)) (wrap64 (a2)))).bind fun bt361 => ((delay_Delay_See.f bt355.2.1 bt355.2.2.1 bt355.2.2.2.1 bt355.2.2.2.2.1 bt355.2.2.2.2.2 true (wrap64 (a1))).bind fun bt367 => ((delay_Delay_Since.f bt361.2.1 bt361.2.2.1 bt361.2.2.2.1 bt361.2.2.2.2.1 bt361.2.2.2.2.2).bind fun bt373 => ((delay_Delay_Since.f bt367.2.1 bt367.2.2.1 bt367.2.2.2.1 bt367.2.2.2.2.1 bt367.2.2.2.2.2).bind fun bt380 => (if (bt361.1 != bt367.1) = true then (watchkeeperlaw12_DelayLate.j0 k a1 a3 t336 true bt373.2.2.1 bt373.2.2.2.1 bt373.2.2.2.2.1 bt373.2.2.2.2.2.1 bt373.2.2.2.2.2.2 bt380.2.2.1 bt380.2.2.2.1 bt380.2.2.2.2.1 bt380.2.2.2.2.2.1 bt380.2.2.2.2.2.2) else (if bt373.1 = bt380.1 then (if (bt373.2.1 != bt380.2.1) = true then (watchkeeperlaw12_DelayLate.j0 k a1 a3 t336 true bt373.2.2.1 bt373.2.2.2.1 bt373.2.2.2.2.1 bt373.2.2.2.2.2.1 bt373.2.2.2.2.2.2 bt380.2.2.1 bt380.2.2.2.1 bt380.2.2.2.2.1 bt380.2.2.2.2.2.1 bt380.2.2.2.2.2.2) else (if bt361.1 = true then (watchkeeperlaw12_DelayLate.j0 k a1 a3 t336 false bt373.2.2.1 bt373.2.2.2.1 bt373.2.2.2.2.1 bt373.2.2.2.2.2.1 bt373.2.2.2.2.2.2 bt380.2.2.1 bt380.2.2.2.1 bt380.2.2.2.2.1 bt380.2.2.2.2.2.1 bt380.2.2.2.2.2.2) else (watchkeeperlaw12_DelayLate.j0 k a1 a3 t336 (bt373.1 != (wrap64 (a1))) bt373.2.2.1 bt373.2.2.2.1 bt373.2.2.2.2.1 bt373.2.2.2.2.2.1 bt373.2.2.2.2.2.2 bt380.2.2.1 bt380.2.2.2.1 bt380.2.2.2.2.1 bt380.2.2.2.2.2.1 bt380.2.2.2.2.2.2))) else (watchkeeperlaw12_DelayLate.j0 k a1 a3 t336 true bt373.2.2.1 bt373.2.2.2.1 bt373.2.2.2.2.1 bt373.2.2.2.2.2.1 bt373.2.2.2.2.2.2 bt380.2.2.1 bt380.2.2.2.1 bt380.2.2.2.2.1 bt380.2.2.2.2.2.1 bt380.2.2.2.2.2.2))))))))))) = some r := H
  have A5 := Aside0.mk A50
  clear A50
  replace H := Option.bind_eq_some_iff.mp H
  obtain ⟨⟨t337, t338, t339, t340, t341⟩, A60, H⟩ := H
  replace H : ((delay_New.f (wrap64 (a0)) 0).bind fun bt343 => ((delay_Delay_See.f t337 t338 t339 t340 t341 false (wrap64 (a1))).bind fun bt349 => ((delay_Delay_See.f bt343.1 bt343.2.1 bt343.2.2.1 bt343.2.2.2.1 bt343.2.2.2.2 false (wrap64 (a1))).bind fun bt355 => ((delay_Delay_See.f bt349.2.1 bt349.2.2.1 bt349.2.2.2.1 bt349.2.2.2.2.1 bt349.2.2.2.2.2 true (mn (wrap64 (a1)) (wrap64 (a2)))).bind fun bt361 => ((delay_Delay_See.f bt355.2.1 bt355.2.2.1 bt355.2.2.2.1 bt355.2.2.2.2.1 bt355.2.2.2.2.2 true (wrap64 (a1))).bind fun bt367 => ((delay_Delay_Since.f bt361.2.1 bt361.2.2.1 bt361.2.2.2.1 bt361.2.2.2.2.1 bt361.2.2.2.2.2).bind fun bt373 => ((delay_Delay_Since.f bt367.2.1 bt367.2.2.1 bt367.2.2.2.1 bt367.2.2.2.2.1 bt367.2.2.2.2.2).bind fun bt380 => (if (bt361.1 != bt367.1) = true then (watchkeeperlaw12_DelayLate.j0 k a1 a3 t336 true bt373.2.2.1 bt373.2.2.2.1 bt373.2.2.2.2.1 bt373.2.2.2.2.2.1 bt373.2.2.2.2.2.2 bt380.2.2.1 bt380.2.2.2.1 bt380.2.2.2.2.1 bt380.2.2.2.2.2.1 bt380.2.2.2.2.2.2) else (if bt373.1 = bt380.1 then (if (bt373.2.1 != bt380.2.1) = true then (watchkeeperlaw12_DelayLate.j0 k a1 a3 t336 true bt373.2.2.1 bt373.2.2.2.1 bt373.2.2.2.2.1 bt373.2.2.2.2.2.1 bt373.2.2.2.2.2.2 bt380.2.2.1 bt380.2.2.2.1 bt380.2.2.2.2.1 bt380.2.2.2.2.2.1 bt380.2.2.2.2.2.2) else (if bt361.1 = true then (watchkeeperlaw12_DelayLate.j0 k a1 a3 t336 false bt373.2.2.1 bt373.2.2.2.1 bt373.2.2.2.2.1 bt373.2.2.2.2.2.1 bt373.2.2.2.2.2.2 bt380.2.2.1 bt380.2.2.2.1 bt380.2.2.2.2.1 bt380.2.2.2.2.2.1 bt380.2.2.2.2.2.2) else (watchkeeperlaw12_DelayLate.j0 k a1 a3 t336 (bt373.1 != (wrap64 (a1))) bt373.2.2.1 bt373.2.2.2.1 bt373.2.2.2.2.1 bt373.2.2.2.2.2.1 bt373.2.2.2.2.2.2 bt380.2.2.1 bt380.2.2.2.1 bt380.2.2.2.2.1 bt380.2.2.2.2.2.1 bt380.2.2.2.2.2.2))) else (watchkeeperlaw12_DelayLate.j0 k a1 a3 t336 true bt373.2.2.1 bt373.2.2.2.1 bt373.2.2.2.2.1 bt373.2.2.2.2.2.1 bt373.2.2.2.2.2.2 bt380.2.2.1 bt380.2.2.2.1 bt380.2.2.2.2.1 bt380.2.2.2.2.2.1 bt380.2.2.2.2.2.2)))))))))) = some r := H
  have A6 := Aside0.mk A60
  clear A60
  replace H := Option.bind_eq_some_iff.mp H
  obtain ⟨⟨t343, t344, t345, t346, t347⟩, A70, H⟩ := H
  replace H : ((delay_Delay_See.f t337 t338 t339 t340 t341 false (wrap64 (a1))).bind fun bt349 => ((delay_Delay_See.f t343 t344 t345 t346 t347 false (wrap64 (a1))).bind fun bt355 => ((delay_Delay_See.f bt349.2.1 bt349.2.2.1 bt349.2.2.2.1 bt349.2.2.2.2.1 bt349.2.2.2.2.2 true (mn (wrap64 (a1)) (wrap64 (a2)))).bind fun bt361 => ((delay_Delay_See.f bt355.2.1 bt355.2.2.1 bt355.2.2.2.1 bt355.2.2.2.2.1 bt355.2.2.2.2.2 true (wrap64 (a1))).bind fun bt367 => ((delay_Delay_Since.f bt361.2.1 bt361.2.2.1 bt361.2.2.2.1 bt361.2.2.2.2.1 bt361.2.2.2.2.2).bind fun bt373 => ((delay_Delay_Since.f bt367.2.1 bt367.2.2.1 bt367.2.2.2.1 bt367.2.2.2.2.1 bt367.2.2.2.2.2).bind fun bt380 => (if (bt361.1 != bt367.1) = true then (watchkeeperlaw12_DelayLate.j0 k a1 a3 t336 true bt373.2.2.1 bt373.2.2.2.1 bt373.2.2.2.2.1 bt373.2.2.2.2.2.1 bt373.2.2.2.2.2.2 bt380.2.2.1 bt380.2.2.2.1 bt380.2.2.2.2.1 bt380.2.2.2.2.2.1 bt380.2.2.2.2.2.2) else (if bt373.1 = bt380.1 then (if (bt373.2.1 != bt380.2.1) = true then (watchkeeperlaw12_DelayLate.j0 k a1 a3 t336 true bt373.2.2.1 bt373.2.2.2.1 bt373.2.2.2.2.1 bt373.2.2.2.2.2.1 bt373.2.2.2.2.2.2 bt380.2.2.1 bt380.2.2.2.1 bt380.2.2.2.2.1 bt380.2.2.2.2.2.1 bt380.2.2.2.2.2.2) else (if bt361.1 = true then (watchkeeperlaw12_DelayLate.j0 k a1 a3 t336 false bt373.2.2.1 bt373.2.2.2.1 bt373.2.2.2.2.1 bt373.2.2.2.2.2.1 bt373.2.2.2.2.2.2 bt380.2.2.1 bt380.2.2.2.1 bt380.2.2.2.2.1 bt380.2.2.2.2.2.1 bt380.2.2.2.2.2.2) else (watchkeeperlaw12_DelayLate.j0 k a1 a3 t336 (bt373.1 != (wrap64 (a1))) bt373.2.2.1 bt373.2.2.2.1 bt373.2.2.2.2.1 bt373.2.2.2.2.2.1 bt373.2.2.2.2.2.2 bt380.2.2.1 bt380.2.2.2.1 bt380.2.2.2.2.1 bt380.2.2.2.2.2.1 bt380.2.2.2.2.2.2))) else (watchkeeperlaw12_DelayLate.j0 k a1 a3 t336 true bt373.2.2.1 bt373.2.2.2.1 bt373.2.2.2.2.1 bt373.2.2.2.2.2.1 bt373.2.2.2.2.2.2 bt380.2.2.1 bt380.2.2.2.1 bt380.2.2.2.2.1 bt380.2.2.2.2.2.1 bt380.2.2.2.2.2.2))))))))) = some r := H
  have A7 := Aside0.mk A70
  clear A70
  replace H := Option.bind_eq_some_iff.mp H
  obtain ⟨⟨t349, t350, t351, t352, t353, t354⟩, A80, H⟩ := H
  replace H : ((delay_Delay_See.f t343 t344 t345 t346 t347 false (wrap64 (a1))).bind fun bt355 => ((delay_Delay_See.f t350 t351 t352 t353 t354 true (mn (wrap64 (a1)) (wrap64 (a2)))).bind fun bt361 => ((delay_Delay_See.f bt355.2.1 bt355.2.2.1 bt355.2.2.2.1 bt355.2.2.2.2.1 bt355.2.2.2.2.2 true (wrap64 (a1))).bind fun bt367 => ((delay_Delay_Since.f bt361.2.1 bt361.2.2.1 bt361.2.2.2.1 bt361.2.2.2.2.1 bt361.2.2.2.2.2).bind fun bt373 => ((delay_Delay_Since.f bt367.2.1 bt367.2.2.1 bt367.2.2.2.1 bt367.2.2.2.2.1 bt367.2.2.2.2.2).bind fun bt380 => (if (bt361.1 != bt367.1) = true then (watchkeeperlaw12_DelayLate.j0 k a1 a3 t336 true bt373.2.2.1 bt373.2.2.2.1 bt373.2.2.2.2.1 bt373.2.2.2.2.2.1 bt373.2.2.2.2.2.2 bt380.2.2.1 bt380.2.2.2.1 bt380.2.2.2.2.1 bt380.2.2.2.2.2.1 bt380.2.2.2.2.2.2) else (if bt373.1 = bt380.1 then (if (bt373.2.1 != bt380.2.1) = true then (watchkeeperlaw12_DelayLate.j0 k a1 a3 t336 true bt373.2.2.1 bt373.2.2.2.1 bt373.2.2.2.2.1 bt373.2.2.2.2.2.1 bt373.2.2.2.2.2.2 bt380.2.2.1 bt380.2.2.2.1 bt380.2.2.2.2.1 bt380.2.2.2.2.2.1 bt380.2.2.2.2.2.2) else (if bt361.1 = true then (watchkeeperlaw12_DelayLate.j0 k a1 a3 t336 false bt373.2.2.1 bt373.2.2.2.1 bt373.2.2.2.2.1 bt373.2.2.2.2.2.1 bt373.2.2.2.2.2.2 bt380.2.2.1 bt380.2.2.2.1 bt380.2.2.2.2.1 bt380.2.2.2.2.2.1 bt380.2.2.2.2.2.2) else (watchkeeperlaw12_DelayLate.j0 k a1 a3 t336 (bt373.1 != (wrap64 (a1))) bt373.2.2.1 bt373.2.2.2.1 bt373.2.2.2.2.1 bt373.2.2.2.2.2.1 bt373.2.2.2.2.2.2 bt380.2.2.1 bt380.2.2.2.1 bt380.2.2.2.2.1 bt380.2.2.2.2.2.1 bt380.2.2.2.2.2.2))) else (watchkeeperlaw12_DelayLate.j0 k a1 a3 t336 true bt373.2.2.1 bt373.2.2.2.1 bt373.2.2.2.2.1 bt373.2.2.2.2.2.1 bt373.2.2.2.2.2.2 bt380.2.2.1 bt380.2.2.2.1 bt380.2.2.2.2.1 bt380.2.2.2.2.2.1 bt380.2.2.2.2.2.2)))))))) = some r := H
  have A8 := Aside0.mk A80
  clear A80
  replace H := Option.bind_eq_some_iff.mp H
  obtain ⟨⟨t355, t356, t357, t358, t359, t360⟩, A90, H⟩ := H
  replace H : ((delay_Delay_See.f t350 t351 t352 t353 t354 true (mn (wrap64 (a1)) (wrap64 (a2)))).bind fun bt361 => ((delay_Delay_See.f t356 t357 t358 t359 t360 true (wrap64 (a1))).bind fun bt367 => ((delay_Delay_Since.f bt361.2.1 bt361.2.2.1 bt361.2.2.2.1 bt361.2.2.2.2.1 bt361.2.2.2.2.2).bind fun bt373 => ((delay_Delay_Since.f bt367.2.1 bt367.2.2.1 bt367.2.2.2.1 bt367.2.2.2.2.1 bt367.2.2.2.2.2).bind fun bt380 => (if (bt361.1 != bt367.1) = true then (watchkeeperlaw12_DelayLate.j0 k a1 a3 t336 true bt373.2.2.1 bt373.2.2.2.1 bt373.2.2.2.2.1 bt373.2.2.2.2.2.1 bt373.2.2.2.2.2.2 bt380.2.2.1 bt380.2.2.2.1 bt380.2.2.2.2.1 bt380.2.2.2.2.2.1 bt380.2.2.2.2.2.2) else (if bt373.1 = bt380.1 then (if (bt373.2.1 != bt380.2.1) = true then (watchkeeperlaw12_DelayLate.j0 k a1 a3 t336 true bt373.2.2.1 bt373.2.2.2.1 bt373.2.2.2.2.1 bt373.2.2.2.2.2.1 bt373.2.2.2.2.2.2 bt380.2.2.1 bt380.2.2.2.1 bt380.2.2.2.2.1 bt380.2.2.2.2.2.1 bt380.2.2.2.2.2.2) else (if bt361.1 = true then (watchkeeperlaw12_DelayLate.j0 k a1 a3 t336 false bt373.2.2.1 bt373.2.2.2.1 bt373.2.2.2.2.1 bt373.2.2.2.2.2.1 bt373.2.2.2.2.2.2 bt380.2.2.1 bt380.2.2.2.1 bt380.2.2.2.2.1 bt380.2.2.2.2.2.1 bt380.2.2.2.2.2.2) else (watchkeeperlaw12_DelayLate.j0 k a1 a3 t336 (bt373.1 != (wrap64 (a1))) bt373.2.2.1 bt373.2.2.2.1 bt373.2.2.2.2.1 bt373.2.2.2.2.2.1 bt373.2.2.2.2.2.2 bt380.2.2.1 bt380.2.2.2.1 bt380.2.2.2.2.1 bt380.2.2.2.2.2.1 bt380.2.2.2.2.2.2))) else (watchkeeperlaw12_DelayLate.j0 k a1 a3 t336 true bt373.2.2.1 bt373.2.2.2.1 bt373.2.2.2.2.1 bt373.2.2.2.2.2.1 bt373.2.2.2.2.2.2 bt380.2.2.1 bt380.2.2.2.1 bt380.2.2.2.2.1 bt380.2.2.2.2.2.1 bt380.2.2.2.2.2.2))))))) = some r := H
  have A9 := Aside0.mk A90
  clear A90
  obtain ⟨ji10, hji10⟩ : ∃ j_ : Int, (mn (wrap64 (a1)) (wrap64 (a2))) = j_ := ⟨_, rfl⟩
  replace H : ((delay_Delay_See.f t350 t351 t352 t353 t354 true (ji10)).bind fun bt361 => ((delay_Delay_See.f t356 t357 t358 t359 t360 true (wrap64 (a1))).bind fun bt367 => ((delay_Delay_Since.f bt361.2.1 bt361.2.2.1 bt361.2.2.2.1 bt361.2.2.2.2.1 bt361.2.2.2.2.2).bind fun bt373 => ((delay_Delay_Since.f bt367.2.1 bt367.2.2.1 bt367.2.2.2.1 bt367.2.2.2.2.1 bt367.2.2.2.2.2).bind fun bt380 => (if (bt361.1 != bt367.1) = true then (watchkeeperlaw12_DelayLate.j0 k a1 a3 t336 true bt373.2.2.1 bt373.2.2.2.1 bt373.2.2.2.2.1 bt373.2.2.2.2.2.1 bt373.2.2.2.2.2.2 bt380.2.2.1 bt380.2.2.2.1 bt380.2.2.2.2.1 bt380.2.2.2.2.2.1 bt380.2.2.2.2.2.2) else (if bt373.1 = bt380.1 then (if (bt373.2.1 != bt380.2.1) = true then (watchkeeperlaw12_DelayLate.j0 k a1 a3 t336 true bt373.2.2.1 bt373.2.2.2.1 bt373.2.2.2.2.1 bt373.2.2.2.2.2.1 bt373.2.2.2.2.2.2 bt380.2.2.1 bt380.2.2.2.1 bt380.2.2.2.2.1 bt380.2.2.2.2.2.1 bt380.2.2.2.2.2.2) else (if bt361.1 = true then (watchkeeperlaw12_DelayLate.j0 k a1 a3 t336 false bt373.2.2.1 bt373.2.2.2.1 bt373.2.2.2.2.1 bt373.2.2.2.2.2.1 bt373.2.2.2.2.2.2 bt380.2.2.1 bt380.2.2.2.1 bt380.2.2.2.2.1 bt380.2.2.2.2.2.1 bt380.2.2.2.2.2.2) else (watchkeeperlaw12_DelayLate.j0 k a1 a3 t336 (bt373.1 != (wrap64 (a1))) bt373.2.2.1 bt373.2.2.2.1 bt373.2.2.2.2.1 bt373.2.2.2.2.2.1 bt373.2.2.2.2.2.2 bt380.2.2.1 bt380.2.2.2.1 bt380.2.2.2.2.1 bt380.2.2.2.2.2.1 bt380.2.2.2.2.2.2))) else (watchkeeperlaw12_DelayLate.j0 k a1 a3 t336 true bt373.2.2.1 bt373.2.2.2.1 bt373.2.2.2.2.1 bt373.2.2.2.2.2.1 bt373.2.2.2.2.2.2 bt380.2.2.1 bt380.2.2.2.1 bt380.2.2.2.2.1 bt380.2.2.2.2.2.1 bt380.2.2.2.2.2.2))))))) = some r := by first | (rw [hji10] at H; exact H) | (simp only [hji10] at H ⊢; exact H)
  (try rw [hji10] at A5)
  (try rw [hji10] at A6)
  (try rw [hji10] at A7)
  (try rw [hji10] at A8)
  (try rw [hji10] at A9)
  have hji10_ : (if (wrap64 (a2)) < (wrap64 (a1)) then (wrap64 (a2)) else (wrap64 (a1))) = ji10 := hji10
  replace H := Option.bind_eq_some_iff.mp H
  obtain ⟨⟨t361, t362, t363, t364, t365, t366⟩, A110, H⟩ := H
  replace H : ((delay_Delay_See.f t356 t357 t358 t359 t360 true (wrap64 (a1))).bind fun bt367 => ((delay_Delay_Since.f t362 t363 t364 t365 t366).bind fun bt373 => ((delay_Delay_Since.f bt367.2.1 bt367.2.2.1 bt367.2.2.2.1 bt367.2.2.2.2.1 bt367.2.2.2.2.2).bind fun bt380 => (if (t361 != bt367.1) = true then (watchkeeperlaw12_DelayLate.j0 k a1 a3 t336 true bt373.2.2.1 bt373.2.2.2.1 bt373.2.2.2.2.1 bt373.2.2.2.2.2.1 bt373.2.2.2.2.2.2 bt380.2.2.1 bt380.2.2.2.1 bt380.2.2.2.2.1 bt380.2.2.2.2.2.1 bt380.2.2.2.2.2.2) else (if bt373.1 = bt380.1 then (if (bt373.2.1 != bt380.2.1) = true then (watchkeeperlaw12_DelayLate.j0 k a1 a3 t336 true bt373.2.2.1 bt373.2.2.2.1 bt373.2.2.2.2.1 bt373.2.2.2.2.2.1 bt373.2.2.2.2.2.2 bt380.2.2.1 bt380.2.2.2.1 bt380.2.2.2.2.1 bt380.2.2.2.2.2.1 bt380.2.2.2.2.2.2) else (if t361 = true then (watchkeeperlaw12_DelayLate.j0 k a1 a3 t336 false bt373.2.2.1 bt373.2.2.2.1 bt373.2.2.2.2.1 bt373.2.2.2.2.2.1 bt373.2.2.2.2.2.2 bt380.2.2.1 bt380.2.2.2.1 bt380.2.2.2.2.1 bt380.2.2.2.2.2.1 bt380.2.2.2.2.2.2) else (watchkeeperlaw12_DelayLate.j0 k a1 a3 t336 (bt373.1 != (wrap64 (a1))) bt373.2.2.1 bt373.2.2.2.1 bt373.2.2.2.2.1 bt373.2.2.2.2.2.1 bt373.2.2.2.2.2.2 bt380.2.2.1 bt380.2.2.2.1 bt380.2.2.2.2.1 bt380.2.2.2.2.2.1 bt380.2.2.2.2.2.2))) else (watchkeeperlaw12_DelayLate.j0 k a1 a3 t336 true bt373.2.2.1 bt373.2.2.2.1 bt373.2.2.2.2.1 bt373.2.2.2.2.2.1 bt373.2.2.2.2.2.2 bt380.2.2.1 bt380.2.2.2.1 bt380.2.2.2.2.1 bt380.2.2.2.2.2.1 bt380.2.2.2.2.2.2)))))) = some r := H
  have A11 := Aside0.mk A110
  clear A110
  replace H := Option.bind_eq_some_iff.mp H
  obtain ⟨⟨t367, t368, t369, t370, t371, t372⟩, A120, H⟩ := H
  replace H : ((delay_Delay_Since.f t362 t363 t364 t365 t366).bind fun bt373 => ((delay_Delay_Since.f t368 t369 t370 t371 t372).bind fun bt380 => (if (t361 != t367) = true then (watchkeeperlaw12_DelayLate.j0 k a1 a3 t336 true bt373.2.2.1 bt373.2.2.2.1 bt373.2.2.2.2.1 bt373.2.2.2.2.2.1 bt373.2.2.2.2.2.2 bt380.2.2.1 bt380.2.2.2.1 bt380.2.2.2.2.1 bt380.2.2.2.2.2.1 bt380.2.2.2.2.2.2) else (if bt373.1 = bt380.1 then (if (bt373.2.1 != bt380.2.1) = true then (watchkeeperlaw12_DelayLate.j0 k a1 a3 t336 true bt373.2.2.1 bt373.2.2.2.1 bt373.2.2.2.2.1 bt373.2.2.2.2.2.1 bt373.2.2.2.2.2.2 bt380.2.2.1 bt380.2.2.2.1 bt380.2.2.2.2.1 bt380.2.2.2.2.2.1 bt380.2.2.2.2.2.2) else (if t361 = true then (watchkeeperlaw12_DelayLate.j0 k a1 a3 t336 false bt373.2.2.1 bt373.2.2.2.1 bt373.2.2.2.2.1 bt373.2.2.2.2.2.1 bt373.2.2.2.2.2.2 bt380.2.2.1 bt380.2.2.2.1 bt380.2.2.2.2.1 bt380.2.2.2.2.2.1 bt380.2.2.2.2.2.2) else (watchkeeperlaw12_DelayLate.j0 k a1 a3 t336 (bt373.1 != (wrap64 (a1))) bt373.2.2.1 bt373.2.2.2.1 bt373.2.2.2.2.1 bt373.2.2.2.2.2.1 bt373.2.2.2.2.2.2 bt380.2.2.1 bt380.2.2.2.1 bt380.2.2.2.2.1 bt380.2.2.2.2.2.1 bt380.2.2.2.2.2.2))) else (watchkeeperlaw12_DelayLate.j0 k a1 a3 t336 true bt373.2.2.1 bt373.2.2.2.1 bt373.2.2.2.2.1 bt373.2.2.2.2.2.1 bt373.2.2.2.2.2.2 bt380.2.2.1 bt380.2.2.2.1 bt380.2.2.2.2.1 bt380.2.2.2.2.2.1 bt380.2.2.2.2.2.2))))) = some r := H
  have A12 := Aside0.mk A120
  clear A120
  replace H := Option.bind_eq_some_iff.mp H
  obtain ⟨⟨t373, t374, t375, t376, t377, t378, t379⟩, A130, H⟩ := H
  replace H : ((delay_Delay_Since.f t368 t369 t370 t371 t372).bind fun bt380 => (if (t361 != t367) = true then (watchkeeperlaw12_DelayLate.j0 k a1 a3 t336 true t375 t376 t377 t378 t379 bt380.2.2.1 bt380.2.2.2.1 bt380.2.2.2.2.1 bt380.2.2.2.2.2.1 bt380.2.2.2.2.2.2) else (if t373 = bt380.1 then (if (t374 != bt380.2.1) = true then (watchkeeperlaw12_DelayLate.j0 k a1 a3 t336 true t375 t376 t377 t378 t379 bt380.2.2.1 bt380.2.2.2.1 bt380.2.2.2.2.1 bt380.2.2.2.2.2.1 bt380.2.2.2.2.2.2) else (if t361 = true then (watchkeeperlaw12_DelayLate.j0 k a1 a3 t336 false t375 t376 t377 t378 t379 bt380.2.2.1 bt380.2.2.2.1 bt380.2.2.2.2.1 bt380.2.2.2.2.2.1 bt380.2.2.2.2.2.2) else (watchkeeperlaw12_DelayLate.j0 k a1 a3 t336 (t373 != (wrap64 (a1))) t375 t376 t377 t378 t379 bt380.2.2.1 bt380.2.2.2.1 bt380.2.2.2.2.1 bt380.2.2.2.2.2.1 bt380.2.2.2.2.2.2))) else (watchkeeperlaw12_DelayLate.j0 k a1 a3 t336 true t375 t376 t377 t378 t379 bt380.2.2.1 bt380.2.2.2.1 bt380.2.2.2.2.1 bt380.2.2.2.2.2.1 bt380.2.2.2.2.2.2)))) = some r := H
  have A13 := Aside0.mk A130
  clear A130
  replace H := Option.bind_eq_some_iff.mp H
  obtain ⟨⟨t380, t381, t382, t383, t384, t385, t386⟩, A140, H⟩ := H
  replace H : (if (t361 != t367) = true then (watchkeeperlaw12_DelayLate.j0 k a1 a3 t336 true t375 t376 t377 t378 t379 t382 t383 t384 t385 t386) else (if t373 = t380 then (if (t374 != t381) = true then (watchkeeperlaw12_DelayLate.j0 k a1 a3 t336 true t375 t376 t377 t378 t379 t382 t383 t384 t385 t386) else (if t361 = true then (watchkeeperlaw12_DelayLate.j0 k a1 a3 t336 false t375 t376 t377 t378 t379 t382 t383 t384 t385 t386) else (watchkeeperlaw12_DelayLate.j0 k a1 a3 t336 (t373 != (wrap64 (a1))) t375 t376 t377 t378 t379 t382 t383 t384 t385 t386))) else (watchkeeperlaw12_DelayLate.j0 k a1 a3 t336 true t375 t376 t377 t378 t379 t382 t383 t384 t385 t386))) = some r := H
  have A14 := Aside0.mk A140
  clear A140
  have HC15 := Aside0.mk H
  clear H
  go_enter Try.func6, Try.ntmps6
  go_upto_region 13 with (first | ((with_reducible refine gate_callee (f := 8) rfl ?_); refine goesL_ (some 19) rfl rfl Try.func8 (by kernel_rfl) rfl #[] rfl (by (try simp only [List.map_toArray, List.map_cons, List.map_nil]); first | done | rfl | (simp only [List.length_drop, List.length_take]; rfl)) ?_; (with_reducible refine (watchkeeperlaw12_head.calls  t336 _ A5.out).mono ?_); rintro e w16 ⟨rfl, hb⟩; refine ⟨_, rfl, ?_⟩; have n0_ := Aside0.mk (below_step (by repeat (first | (with_reducible first | exact HB.out | apply below_alloc | apply pw_below_drewN | apply below_drew1) | exact HB.out)) hb); clear HB; have HB := n0_; clear n0_; (try clear hb); (try clear hb2); (try clear hgn); (try clear hk); (try clear hi)) | ((with_reducible refine gate_callee (f := 9) rfl ?_); refine goesL_ (some 22) rfl rfl Try.func9 (by kernel_rfl) rfl #[.int .i64 (wrap64 (a0)), .int .i64 0] rfl (by (try simp only [List.map_toArray, List.map_cons, List.map_nil]); first | done | rfl | (simp only [List.length_drop, List.length_take]; rfl)) ?_; (with_reducible refine (delay_New.calls (wrap64 (a0)) 0 t337 t338 t339 t340 t341 w _ ?side1 A6.out).mono ?_); (case side1 => repeat (first | (with_reducible first | exact HB.out | apply below_alloc | apply pw_below_drewN | apply below_drew1) | exact HB.out)); rintro e w17 ⟨g342, rfl, hi, hb, hb2, hgn⟩; refine ⟨_, rfl, ?_⟩; have n0_ := Aside0.mk (hb); have n1_ := Aside0.mk (hi); clear HB; have HB := n0_; have HI342 := n1_; clear n0_ n1_; (try clear hb); (try clear hb2); (try clear hgn); (try clear hk); (try clear hi)) | ((with_reducible refine gate_callee (f := 9) rfl ?_); refine goesL_ (some 25) rfl rfl Try.func9 (by kernel_rfl) rfl #[.int .i64 (wrap64 (a0)), .int .i64 0] rfl (by (try simp only [List.map_toArray, List.map_cons, List.map_nil]); first | done | rfl | (simp only [List.length_drop, List.length_take]; rfl)) ?_; (with_reducible refine (delay_New.calls (wrap64 (a0)) 0 t343 t344 t345 t346 t347 w _ ?side1 A7.out).mono ?_); (case side1 => repeat (first | (with_reducible first | exact HB.out | apply below_alloc | apply pw_below_drewN | apply below_drew1 | refine below_set ?_ (IsS44.ge HI342.out)) | exact HB.out)); rintro e w18 ⟨g348, rfl, hi, hb, hb2, hgn⟩; refine ⟨_, rfl, ?_⟩; have n0_ := Aside0.mk (IsS44.below (by repeat (first | (with_reducible first | exact HI342.out | apply IsS44.alloc | apply IsS44.drewN | apply IsS44.drew | apply IsS44.set_0 | apply IsS44.set_1 | apply IsS44.set_2 | apply IsS44.set_3 | apply IsS44.set_4) | exact HI342.out)) hb2); have n1_ := Aside0.mk (hb); have n2_ := Aside0.mk (hi); have n3_ := Aside0.mk ((Nat.ne_of_gt (Nat.lt_of_lt_of_le (IsS44.lt (show IsS44 w _ g342 t337 t338 t339 t340 t341 from by repeat (first | (with_reducible first | exact HI342.out | apply IsS44.alloc | apply IsS44.drewN | apply IsS44.drew | apply IsS44.set_0 | apply IsS44.set_1 | apply IsS44.set_2 | apply IsS44.set_3 | apply IsS44.set_4) | exact HI342.out))) hgn) : g348 ≠ g342)); have n4_ := Aside0.mk ((Nat.ne_of_lt (Nat.lt_of_lt_of_le (IsS44.lt (show IsS44 w _ g342 t337 t338 t339 t340 t341 from by repeat (first | (with_reducible first | exact HI342.out | apply IsS44.alloc | apply IsS44.drewN | apply IsS44.drew | apply IsS44.set_0 | apply IsS44.set_1 | apply IsS44.set_2 | apply IsS44.set_3 | apply IsS44.set_4) | exact HI342.out))) hgn) : g342 ≠ g348)); clear HI342; clear HB; have HI342 := n0_; have HB := n1_; have HI348 := n2_; have NS348_342 := n3_; have NS342_348 := n4_; clear n0_ n1_ n2_ n3_ n4_; (try clear hb); (try clear hb2); (try clear hgn); (try clear hk); (try clear hi)) | ((with_reducible refine gate_callee (f := 11) rfl ?_); refine goesL_ (some 35) rfl rfl Try.func11 (by kernel_rfl) rfl #[.pointer (some ⟨g342, 0, none⟩), .bool false, .int .i64 (wrap64 (a1))] rfl (by (try simp only [List.map_toArray, List.map_cons, List.map_nil]); first | done | rfl | (simp only [List.length_drop, List.length_take]; rfl)) ?_; (with_reducible refine (delay_Delay_See.calls g342 t337 t338 t339 t340 t341 false (wrap64 (a1)) t349 t350 t351 t352 t353 t354 w _ ?side1 ?side2 A8.out).mono ?_); (case side1 => repeat (first | (with_reducible first | exact HI342.out | apply IsS44.alloc | apply IsS44.drewN | apply IsS44.drew | apply IsS44.set_0 | apply IsS44.set_1 | apply IsS44.set_2 | apply IsS44.set_3 | apply IsS44.set_4) | exact HI342.out)); (case side2 => repeat (first | (with_reducible first | exact HB.out | apply below_alloc | apply pw_below_drewN | apply below_drew1 | refine below_set ?_ (IsS44.ge HI342.out) | refine below_set ?_ (IsS44.ge HI348.out)) | exact HB.out)); rintro e w19 ⟨rfl, hi, hb, hk⟩; refine ⟨_, rfl, ?_⟩; have n0_ := Aside0.mk (IsS44.keepg (show IsS44 w _ g348 t343 t344 t345 t346 t347 from by repeat (first | (with_reducible first | exact HI348.out | apply IsS44.alloc | apply IsS44.drewN | apply IsS44.drew | apply IsS44.set_0 | apply IsS44.set_1 | apply IsS44.set_2 | apply IsS44.set_3 | apply IsS44.set_4) | exact HI348.out)) hk NS348_342.out); have n1_ := Aside0.mk (hb); have n2_ := Aside0.mk (hi); clear HI348; clear HB; clear HI342; have HI348 := n0_; have HB := n1_; have HI342 := n2_; clear n0_ n1_ n2_; (try clear hb); (try clear hb2); (try clear hgn); (try clear hk); (try clear hi)) | ((with_reducible refine gate_callee (f := 11) rfl ?_); refine goesL_ (some 39) rfl rfl Try.func11 (by kernel_rfl) rfl #[.pointer (some ⟨g348, 0, none⟩), .bool false, .int .i64 (wrap64 (a1))] rfl (by (try simp only [List.map_toArray, List.map_cons, List.map_nil]); first | done | rfl | (simp only [List.length_drop, List.length_take]; rfl)) ?_; (with_reducible refine (delay_Delay_See.calls g348 t343 t344 t345 t346 t347 false (wrap64 (a1)) t355 t356 t357 t358 t359 t360 w _ ?side1 ?side2 A9.out).mono ?_); (case side1 => repeat (first | (with_reducible first | exact HI348.out | apply IsS44.alloc | apply IsS44.drewN | apply IsS44.drew | apply IsS44.set_0 | apply IsS44.set_1 | apply IsS44.set_2 | apply IsS44.set_3 | apply IsS44.set_4) | exact HI348.out)); (case side2 => repeat (first | (with_reducible first | exact HB.out | apply below_alloc | apply pw_below_drewN | apply below_drew1 | refine below_set ?_ (IsS44.ge HI342.out) | refine below_set ?_ (IsS44.ge HI348.out)) | exact HB.out)); rintro e w20 ⟨rfl, hi, hb, hk⟩; refine ⟨_, rfl, ?_⟩; have n0_ := Aside0.mk (IsS44.keepg (show IsS44 w _ g342 t350 t351 t352 t353 t354 from by repeat (first | (with_reducible first | exact HI342.out | apply IsS44.alloc | apply IsS44.drewN | apply IsS44.drew | apply IsS44.set_0 | apply IsS44.set_1 | apply IsS44.set_2 | apply IsS44.set_3 | apply IsS44.set_4) | exact HI342.out)) hk NS342_348.out); have n1_ := Aside0.mk (hb); have n2_ := Aside0.mk (hi); clear HI342; clear HB; clear HI348; have HI342 := n0_; have HB := n1_; have HI348 := n2_; clear n0_ n1_ n2_; (try clear hb); (try clear hb2); (try clear hgn); (try clear hk); (try clear hi)) | ((with_reducible refine gate_callee (f := 11) rfl ?_); refine goesL_ (some 47) rfl rfl Try.func11 (by kernel_rfl) rfl #[.pointer (some ⟨g342, 0, none⟩), .bool true, .int .i64 ji10] rfl (by (try simp only [List.map_toArray, List.map_cons, List.map_nil]); first | done | (simp only [hji10]; rfl) | rfl | (simp only [List.length_drop, List.length_take]; rfl)) ?_; (with_reducible refine (delay_Delay_See.calls g342 t350 t351 t352 t353 t354 true ji10 t361 t362 t363 t364 t365 t366 w _ ?side1 ?side2 A11.out).mono ?_); (case side1 => repeat (first | (with_reducible first | exact HI342.out | apply IsS44.alloc | apply IsS44.drewN | apply IsS44.drew | apply IsS44.set_0 | apply IsS44.set_1 | apply IsS44.set_2 | apply IsS44.set_3 | apply IsS44.set_4) | exact HI342.out)); (case side2 => repeat (first | (with_reducible first | exact HB.out | apply below_alloc | apply pw_below_drewN | apply below_drew1 | refine below_set ?_ (IsS44.ge HI342.out) | refine below_set ?_ (IsS44.ge HI348.out)) | exact HB.out)); rintro e w21 ⟨rfl, hi, hb, hk⟩; refine ⟨_, rfl, ?_⟩; have n0_ := Aside0.mk (IsS44.keepg (show IsS44 w _ g348 t356 t357 t358 t359 t360 from by repeat (first | (with_reducible first | exact HI348.out | apply IsS44.alloc | apply IsS44.drewN | apply IsS44.drew | apply IsS44.set_0 | apply IsS44.set_1 | apply IsS44.set_2 | apply IsS44.set_3 | apply IsS44.set_4) | exact HI348.out)) hk NS348_342.out); have n1_ := Aside0.mk (hb); have n2_ := Aside0.mk (hi); clear HI348; clear HB; clear HI342; have HI348 := n0_; have HB := n1_; have HI342 := n2_; clear n0_ n1_ n2_; (try clear hb); (try clear hb2); (try clear hgn); (try clear hk); (try clear hi)) | ((with_reducible refine gate_callee (f := 11) rfl ?_); refine goesL_ (some 51) rfl rfl Try.func11 (by kernel_rfl) rfl #[.pointer (some ⟨g348, 0, none⟩), .bool true, .int .i64 (wrap64 (a1))] rfl (by (try simp only [List.map_toArray, List.map_cons, List.map_nil]); first | done | rfl | (simp only [List.length_drop, List.length_take]; rfl)) ?_; (with_reducible refine (delay_Delay_See.calls g348 t356 t357 t358 t359 t360 true (wrap64 (a1)) t367 t368 t369 t370 t371 t372 w _ ?side1 ?side2 A12.out).mono ?_); (case side1 => repeat (first | (with_reducible first | exact HI348.out | apply IsS44.alloc | apply IsS44.drewN | apply IsS44.drew | apply IsS44.set_0 | apply IsS44.set_1 | apply IsS44.set_2 | apply IsS44.set_3 | apply IsS44.set_4) | exact HI348.out)); (case side2 => repeat (first | (with_reducible first | exact HB.out | apply below_alloc | apply pw_below_drewN | apply below_drew1 | refine below_set ?_ (IsS44.ge HI342.out) | refine below_set ?_ (IsS44.ge HI348.out)) | exact HB.out)); rintro e w22 ⟨rfl, hi, hb, hk⟩; refine ⟨_, rfl, ?_⟩; have n0_ := Aside0.mk (IsS44.keepg (show IsS44 w _ g342 t362 t363 t364 t365 t366 from by repeat (first | (with_reducible first | exact HI342.out | apply IsS44.alloc | apply IsS44.drewN | apply IsS44.drew | apply IsS44.set_0 | apply IsS44.set_1 | apply IsS44.set_2 | apply IsS44.set_3 | apply IsS44.set_4) | exact HI342.out)) hk NS342_348.out); have n1_ := Aside0.mk (hb); have n2_ := Aside0.mk (hi); clear HI342; clear HB; clear HI348; have HI342 := n0_; have HB := n1_; have HI348 := n2_; clear n0_ n1_ n2_; (try clear hb); (try clear hb2); (try clear hgn); (try clear hk); (try clear hi)) | ((with_reducible refine gate_callee (f := 13) rfl ?_); refine goesL_ (some 54) rfl rfl Try.func13 (by kernel_rfl) rfl #[.pointer (some ⟨g342, 0, none⟩)] rfl (by (try simp only [List.map_toArray, List.map_cons, List.map_nil]); first | done | rfl | (simp only [List.length_drop, List.length_take]; rfl)) ?_; (with_reducible refine (delay_Delay_Since.calls g342 t362 t363 t364 t365 t366 t373 t374 t375 t376 t377 t378 t379 w _ ?side1 ?side2 A13.out).mono ?_); (case side1 => repeat (first | (with_reducible first | exact HI342.out | apply IsS44.alloc | apply IsS44.drewN | apply IsS44.drew | apply IsS44.set_0 | apply IsS44.set_1 | apply IsS44.set_2 | apply IsS44.set_3 | apply IsS44.set_4) | exact HI342.out)); (case side2 => repeat (first | (with_reducible first | exact HB.out | apply below_alloc | apply pw_below_drewN | apply below_drew1 | refine below_set ?_ (IsS44.ge HI342.out) | refine below_set ?_ (IsS44.ge HI348.out)) | exact HB.out)); rintro e w23 ⟨rfl, hi, hb, hk⟩; refine ⟨_, rfl, ?_⟩; have n0_ := Aside0.mk (IsS44.keepg (show IsS44 w _ g348 t368 t369 t370 t371 t372 from by repeat (first | (with_reducible first | exact HI348.out | apply IsS44.alloc | apply IsS44.drewN | apply IsS44.drew | apply IsS44.set_0 | apply IsS44.set_1 | apply IsS44.set_2 | apply IsS44.set_3 | apply IsS44.set_4) | exact HI348.out)) hk NS348_342.out); have n1_ := Aside0.mk (hb); have n2_ := Aside0.mk (hi); clear HI348; clear HB; clear HI342; have HI348 := n0_; have HB := n1_; have HI342 := n2_; clear n0_ n1_ n2_; (try clear hb); (try clear hb2); (try clear hgn); (try clear hk); (try clear hi)) | ((with_reducible refine gate_callee (f := 13) rfl ?_); refine goesL_ (some 59) rfl rfl Try.func13 (by kernel_rfl) rfl #[.pointer (some ⟨g348, 0, none⟩)] rfl (by (try simp only [List.map_toArray, List.map_cons, List.map_nil]); first | done | rfl | (simp only [List.length_drop, List.length_take]; rfl)) ?_; (with_reducible refine (delay_Delay_Since.calls g348 t368 t369 t370 t371 t372 t380 t381 t382 t383 t384 t385 t386 w _ ?side1 ?side2 A14.out).mono ?_); (case side1 => repeat (first | (with_reducible first | exact HI348.out | apply IsS44.alloc | apply IsS44.drewN | apply IsS44.drew | apply IsS44.set_0 | apply IsS44.set_1 | apply IsS44.set_2 | apply IsS44.set_3 | apply IsS44.set_4) | exact HI348.out)); (case side2 => repeat (first | (with_reducible first | exact HB.out | apply below_alloc | apply pw_below_drewN | apply below_drew1 | refine below_set ?_ (IsS44.ge HI342.out) | refine below_set ?_ (IsS44.ge HI348.out)) | exact HB.out)); rintro e w24 ⟨rfl, hi, hb, hk⟩; refine ⟨_, rfl, ?_⟩; have n0_ := Aside0.mk (IsS44.keepg (show IsS44 w _ g342 t375 t376 t377 t378 t379 from by repeat (first | (with_reducible first | exact HI342.out | apply IsS44.alloc | apply IsS44.drewN | apply IsS44.drew | apply IsS44.set_0 | apply IsS44.set_1 | apply IsS44.set_2 | apply IsS44.set_3 | apply IsS44.set_4) | exact HI342.out)) hk NS342_348.out); have n1_ := Aside0.mk (hb); have n2_ := Aside0.mk (hi); clear HI342; clear HB; clear HI348; have HI342 := n0_; have HB := n1_; have HI348 := n2_; clear n0_ n1_ n2_; (try clear hb); (try clear hb2); (try clear hgn); (try clear hk); (try clear hi)))
  (try simp only [Act.put, List.setIfInBounds_toArray, List.set_cons_zero, List.set_cons_succ])
  go_cut [84] (fun v84 wc => ∃ (kq : Nat) (x84_14 : Bool), v84 = .bool x84_14 ∧ Aside0 (watchkeeperlaw12_DelayLate.j0 kq a1 a3 t336 x84_14 t375 t376 t377 t378 t379 t382 t383 t384 t385 t386 = some r) ∧ Aside0 (kq ≤ k) ∧ Aside0 (IsS44 w wc g342 t375 t376 t377 t378 t379) ∧ Aside0 (IsS44 w wc g348 t382 t383 t384 t385 t386) ∧ Aside0 (Below w.heap.size w wc))
  case first =>
    have H := HC15.out
    clear HC15
    by_cases c25 : (t361 != t367) = true
    · rw [if_pos c25] at H
      have c25b0 : (t361 != t367) = true := c25
      (try (have c25b1 : decide (t361 = t367) = false := by simpa using c25))
      (try (have c25b2 : (t361 == t367) = false := by simpa using c25))
      (try (have c25b3 : ¬ (t361 = t367) := by simpa using c25))
      clear c25
      (first | rw [c25b0] | (simp only [i64_w, i32_w]; rw [c25b0]) | skip)
      have H' := Aside0.mk H
      clear H
      go_wp2
      go_meet
      case rel => exact ⟨_, (true), (by first | rfl | (simp; done) | (simp [*]; done)), H', ⟨by first | omega | exact Nat.le_refl _⟩, ⟨by repeat (first | (with_reducible first | exact HI342.out | apply IsS44.alloc | apply IsS44.drewN | apply IsS44.drew | apply IsS44.set_0 | apply IsS44.set_1 | apply IsS44.set_2 | apply IsS44.set_3 | apply IsS44.set_4) | exact HI342.out)⟩, ⟨by repeat (first | (with_reducible first | exact HI348.out | apply IsS44.alloc | apply IsS44.drewN | apply IsS44.drew | apply IsS44.set_0 | apply IsS44.set_1 | apply IsS44.set_2 | apply IsS44.set_3 | apply IsS44.set_4) | exact HI348.out)⟩, ⟨by repeat (first | (with_reducible first | exact HB.out | apply below_alloc | apply pw_below_drewN | apply below_drew1 | refine below_set ?_ (IsS44.ge HI342.out) | refine below_set ?_ (IsS44.ge HI348.out)) | exact HB.out)⟩⟩
    · rw [if_neg c25] at H
      have c25b0 : (t361 != t367) = false := by simpa using c25
      (try (have c25b1 : decide (t361 = t367) = true := by simpa using c25))
      (try (have c25b2 : (t361 == t367) = true := by simpa using c25))
      clear c25
      (first | rw [c25b0] | (simp only [i64_w, i32_w]; rw [c25b0]) | skip)
      by_cases c26 : t373 = t380
      · rw [if_pos c26] at H
        have c26b0 : (t373 == t380) = true := beq_iff_eq.mpr c26
        have c26b1 : (t373 != t380) = false := bne_eq_false_iff_eq.mpr c26
        clear c26
        by_cases c27 : (t374 != t381) = true
        · rw [if_pos c27] at H
          have c27b0 : (t374 != t381) = true := c27
          (try (have c27b1 : decide (t374 = t381) = false := by simpa using c27))
          (try (have c27b2 : (t374 == t381) = false := by simpa using c27))
          (try (have c27b3 : ¬ (t374 = t381) := by simpa using c27))
          clear c27
          have H' := Aside0.mk H
          clear H
          go_wp2
          go_meet
          case rel => exact ⟨_, (true), (by first | rfl | (simp; done) | (simp [*]; done)), H', ⟨by first | omega | exact Nat.le_refl _⟩, ⟨by repeat (first | (with_reducible first | exact HI342.out | apply IsS44.alloc | apply IsS44.drewN | apply IsS44.drew | apply IsS44.set_0 | apply IsS44.set_1 | apply IsS44.set_2 | apply IsS44.set_3 | apply IsS44.set_4) | exact HI342.out)⟩, ⟨by repeat (first | (with_reducible first | exact HI348.out | apply IsS44.alloc | apply IsS44.drewN | apply IsS44.drew | apply IsS44.set_0 | apply IsS44.set_1 | apply IsS44.set_2 | apply IsS44.set_3 | apply IsS44.set_4) | exact HI348.out)⟩, ⟨by repeat (first | (with_reducible first | exact HB.out | apply below_alloc | apply pw_below_drewN | apply below_drew1 | refine below_set ?_ (IsS44.ge HI342.out) | refine below_set ?_ (IsS44.ge HI348.out)) | exact HB.out)⟩⟩
        · rw [if_neg c27] at H
          have c27b0 : (t374 != t381) = false := by simpa using c27
          (try (have c27b1 : decide (t374 = t381) = true := by simpa using c27))
          (try (have c27b2 : (t374 == t381) = true := by simpa using c27))
          clear c27
          by_cases c28 : t361 = true
          · subst c28
            have H1 : (watchkeeperlaw12_DelayLate.j0 k a1 a3 t336 false t375 t376 t377 t378 t379 t382 t383 t384 t385 t386) = some r := by rw [if_pos rfl] at H; exact H
            clear H
            have H := H1
            clear H1
            have H' := Aside0.mk H
            clear H
            go_wp2
            go_meet
            case rel => exact ⟨_, (false), (by first | rfl | (simp; done) | (simp [*]; done)), H', ⟨by first | omega | exact Nat.le_refl _⟩, ⟨by repeat (first | (with_reducible first | exact HI342.out | apply IsS44.alloc | apply IsS44.drewN | apply IsS44.drew | apply IsS44.set_0 | apply IsS44.set_1 | apply IsS44.set_2 | apply IsS44.set_3 | apply IsS44.set_4) | exact HI342.out)⟩, ⟨by repeat (first | (with_reducible first | exact HI348.out | apply IsS44.alloc | apply IsS44.drewN | apply IsS44.drew | apply IsS44.set_0 | apply IsS44.set_1 | apply IsS44.set_2 | apply IsS44.set_3 | apply IsS44.set_4) | exact HI348.out)⟩, ⟨by repeat (first | (with_reducible first | exact HB.out | apply below_alloc | apply pw_below_drewN | apply below_drew1 | refine below_set ?_ (IsS44.ge HI342.out) | refine below_set ?_ (IsS44.ge HI348.out)) | exact HB.out)⟩⟩
          · replace c28 := Bool.eq_false_iff.mpr c28
            subst c28
            have H1 : (watchkeeperlaw12_DelayLate.j0 k a1 a3 t336 (t373 != (wrap64 (a1))) t375 t376 t377 t378 t379 t382 t383 t384 t385 t386) = some r := by rw [if_neg (show ¬ (false = true) by decide)] at H; exact H
            clear H
            have H := H1
            clear H1
            have H' := Aside0.mk H
            clear H
            go_wp2
            go_meet
            case rel => exact ⟨_, ((t373 != (wrap64 (a1)))), (by first | rfl | (simp; done) | (simp [*]; done)), H', ⟨by first | omega | exact Nat.le_refl _⟩, ⟨by repeat (first | (with_reducible first | exact HI342.out | apply IsS44.alloc | apply IsS44.drewN | apply IsS44.drew | apply IsS44.set_0 | apply IsS44.set_1 | apply IsS44.set_2 | apply IsS44.set_3 | apply IsS44.set_4) | exact HI342.out)⟩, ⟨by repeat (first | (with_reducible first | exact HI348.out | apply IsS44.alloc | apply IsS44.drewN | apply IsS44.drew | apply IsS44.set_0 | apply IsS44.set_1 | apply IsS44.set_2 | apply IsS44.set_3 | apply IsS44.set_4) | exact HI348.out)⟩, ⟨by repeat (first | (with_reducible first | exact HB.out | apply below_alloc | apply pw_below_drewN | apply below_drew1 | refine below_set ?_ (IsS44.ge HI342.out) | refine below_set ?_ (IsS44.ge HI348.out)) | exact HB.out)⟩⟩
      · rw [if_neg c26] at H
        have c26b0 : (t373 == t380) = false := beq_eq_false_iff_ne.mpr c26
        have c26b1 : (t373 != t380) = true := bne_iff_ne.mpr c26
        have H' := Aside0.mk H
        clear H
        go_wp2
        go_meet
        case rel => exact ⟨_, (true), (by first | rfl | (simp; done) | (simp [*]; done)), H', ⟨by first | omega | exact Nat.le_refl _⟩, ⟨by repeat (first | (with_reducible first | exact HI342.out | apply IsS44.alloc | apply IsS44.drewN | apply IsS44.drew | apply IsS44.set_0 | apply IsS44.set_1 | apply IsS44.set_2 | apply IsS44.set_3 | apply IsS44.set_4) | exact HI342.out)⟩, ⟨by repeat (first | (with_reducible first | exact HI348.out | apply IsS44.alloc | apply IsS44.drewN | apply IsS44.drew | apply IsS44.set_0 | apply IsS44.set_1 | apply IsS44.set_2 | apply IsS44.set_3 | apply IsS44.set_4) | exact HI348.out)⟩, ⟨by repeat (first | (with_reducible first | exact HB.out | apply below_alloc | apply pw_below_drewN | apply below_drew1 | refine below_set ?_ (IsS44.ge HI342.out) | refine below_set ?_ (IsS44.ge HI348.out)) | exact HB.out)⟩⟩
  case rest =>
    clear HC15
    try clear c1
    try clear c2
    try clear p2
    try clear c6
    try clear p6
    try clear c8
    try clear c9
    try clear c11
    try clear c13
    try clear c25
    try clear c25b0
    try clear c25b1
    try clear c25b2
    try clear c26
    try clear c26b0
    try clear c26b1
    try clear c27
    try clear c27b0
    try clear c27b1
    try clear c27b2
    try clear c28
    obtain ⟨kq, x84_14, rfl, HA, HJ14, HI342, HI348, HB⟩ := hcut
    cases kq with
    | zero => exact absurd HA.out (by simp [watchkeeperlaw12_DelayLate.j0])
    | succ kj14 =>
      have H := HA.out
      clear HA
      simp only [watchkeeperlaw12_DelayLate.j0] at H
      by_cases c29 : x84_14 = true
      · subst c29
        have H1 : (some false) = some r := by rw [if_pos rfl] at H; exact H
        clear H
        have H := H1
        clear H1
        obtain rfl := Option.some.inj H
        go_wp2
        go_ret
        exact ⟨by first | rfl | (simp [errW_none, errW_some] <;> rfl) | (simp only [← hji10]; first | rfl | (simp [errW_none, errW_some] <;> rfl)) | (simp [*, errW_none, errW_some] <;> rfl), by repeat (first | (with_reducible first | exact HB.out | apply below_alloc | apply pw_below_drewN | apply below_drew1 | refine below_set ?_ (IsS44.ge HI342.out) | refine below_set ?_ (IsS44.ge HI348.out)) | exact HB.out)⟩
      · replace c29 := Bool.eq_false_iff.mpr c29
        subst c29
        have H1 : ((delay_Delay_See.f t375 t376 t377 t378 t379 true a3).bind fun bt387 => ((delay_Delay_See.f t382 t383 t384 t385 t386 true (mn (mx a3 (wrap64 (a1))) 1099511627776)).bind fun bt393 => (if t336 = true then ((delay_Delay_Value.f bt387.2.1 bt387.2.2.1 bt387.2.2.2.1 bt387.2.2.2.2.1 bt387.2.2.2.2.2).bind fun bt399 => ((delay_Delay_Value.f bt393.2.1 bt393.2.2.1 bt393.2.2.2.1 bt393.2.2.2.2.1 bt393.2.2.2.2.2).bind fun bt405 => (if (bt399.1 == bt405.1) = true then ((delay_Delay_See.f bt399.2.1 bt399.2.2.1 bt399.2.2.2.1 bt399.2.2.2.2.1 bt399.2.2.2.2.2 true 4611686018427387904).bind fun bt411 => (some bt411.1)) else (some false)))) else (some false)))) = some r := by rw [if_neg (show ¬ (false = true) by decide)] at H; exact H
        clear H
        have H := H1
        clear H1
        replace H := Option.bind_eq_some_iff.mp H
        obtain ⟨⟨t387, t388, t389, t390, t391, t392⟩, A300, H⟩ := H
        replace H : ((delay_Delay_See.f t382 t383 t384 t385 t386 true (mn (mx a3 (wrap64 (a1))) 1099511627776)).bind fun bt393 => (if t336 = true then ((delay_Delay_Value.f t388 t389 t390 t391 t392).bind fun bt399 => ((delay_Delay_Value.f bt393.2.1 bt393.2.2.1 bt393.2.2.2.1 bt393.2.2.2.2.1 bt393.2.2.2.2.2).bind fun bt405 => (if (bt399.1 == bt405.1) = true then ((delay_Delay_See.f bt399.2.1 bt399.2.2.1 bt399.2.2.2.1 bt399.2.2.2.2.1 bt399.2.2.2.2.2 true 4611686018427387904).bind fun bt411 => (some bt411.1)) else (some false)))) else (some false))) = some r := H
        have A30 := Aside0.mk A300
        clear A300
        obtain ⟨ji31, hji31⟩ : ∃ j_ : Int, (mx a3 (wrap64 (a1))) = j_ := ⟨_, rfl⟩
        replace H : ((delay_Delay_See.f t382 t383 t384 t385 t386 true (mn (ji31) 1099511627776)).bind fun bt393 => (if t336 = true then ((delay_Delay_Value.f t388 t389 t390 t391 t392).bind fun bt399 => ((delay_Delay_Value.f bt393.2.1 bt393.2.2.1 bt393.2.2.2.1 bt393.2.2.2.2.1 bt393.2.2.2.2.2).bind fun bt405 => (if (bt399.1 == bt405.1) = true then ((delay_Delay_See.f bt399.2.1 bt399.2.2.1 bt399.2.2.2.1 bt399.2.2.2.2.1 bt399.2.2.2.2.2 true 4611686018427387904).bind fun bt411 => (some bt411.1)) else (some false)))) else (some false))) = some r := by first | (rw [hji31] at H; exact H) | (simp only [hji31] at H ⊢; exact H)
        (try rw [hji31] at A30)
        have hji31_ : (if a3 < (wrap64 (a1)) then (wrap64 (a1)) else a3) = ji31 := hji31
        obtain ⟨ji32, hji32⟩ : ∃ j_ : Int, (mn (ji31) 1099511627776) = j_ := ⟨_, rfl⟩
        replace H : ((delay_Delay_See.f t382 t383 t384 t385 t386 true (ji32)).bind fun bt393 => (if t336 = true then ((delay_Delay_Value.f t388 t389 t390 t391 t392).bind fun bt399 => ((delay_Delay_Value.f bt393.2.1 bt393.2.2.1 bt393.2.2.2.1 bt393.2.2.2.2.1 bt393.2.2.2.2.2).bind fun bt405 => (if (bt399.1 == bt405.1) = true then ((delay_Delay_See.f bt399.2.1 bt399.2.2.1 bt399.2.2.2.1 bt399.2.2.2.2.1 bt399.2.2.2.2.2 true 4611686018427387904).bind fun bt411 => (some bt411.1)) else (some false)))) else (some false))) = some r := by first | (rw [hji32] at H; exact H) | (simp only [hji32] at H ⊢; exact H)
        (try rw [hji32] at A30)
        have hji32_ : (if 1099511627776 < (ji31) then 1099511627776 else (ji31)) = ji32 := hji32
        replace H := Option.bind_eq_some_iff.mp H
        obtain ⟨⟨t393, t394, t395, t396, t397, t398⟩, A330, H⟩ := H
        replace H : (if t336 = true then ((delay_Delay_Value.f t388 t389 t390 t391 t392).bind fun bt399 => ((delay_Delay_Value.f t394 t395 t396 t397 t398).bind fun bt405 => (if (bt399.1 == bt405.1) = true then ((delay_Delay_See.f bt399.2.1 bt399.2.2.1 bt399.2.2.2.1 bt399.2.2.2.2.1 bt399.2.2.2.2.2 true 4611686018427387904).bind fun bt411 => (some bt411.1)) else (some false)))) else (some false)) = some r := H
        have A33 := Aside0.mk A330
        clear A330
        by_cases c34 : t336 = true
        · subst c34
          have H1 : ((delay_Delay_Value.f t388 t389 t390 t391 t392).bind fun bt399 => ((delay_Delay_Value.f t394 t395 t396 t397 t398).bind fun bt405 => (if (bt399.1 == bt405.1) = true then ((delay_Delay_See.f bt399.2.1 bt399.2.2.1 bt399.2.2.2.1 bt399.2.2.2.2.1 bt399.2.2.2.2.2 true 4611686018427387904).bind fun bt411 => (some bt411.1)) else (some false)))) = some r := by rw [if_pos rfl] at H; exact H
          clear H
          have H := H1
          clear H1
          replace H := Option.bind_eq_some_iff.mp H
          obtain ⟨⟨t399, t400, t401, t402, t403, t404⟩, A350, H⟩ := H
          replace H : ((delay_Delay_Value.f t394 t395 t396 t397 t398).bind fun bt405 => (if (t399 == bt405.1) = true then ((delay_Delay_See.f t400 t401 t402 t403 t404 true 4611686018427387904).bind fun bt411 => (some bt411.1)) else (some false))) = some r := H
          have A35 := Aside0.mk A350
          clear A350
          replace H := Option.bind_eq_some_iff.mp H
          obtain ⟨⟨t405, t406, t407, t408, t409, t410⟩, A360, H⟩ := H
          replace H : (if (t399 == t405) = true then ((delay_Delay_See.f t400 t401 t402 t403 t404 true 4611686018427387904).bind fun bt411 => (some bt411.1)) else (some false)) = some r := H
          have A36 := Aside0.mk A360
          clear A360
          by_cases c37 : (t399 == t405) = true
          · rw [if_pos c37] at H
            have c37b0 : (t399 == t405) = true := c37
            (try (have c37b1 : decide (t399 = t405) = true := by simpa using c37))
            (try (have c37b2 : (t399 == t405) = true := by simpa using c37))
            clear c37
            replace H := Option.bind_eq_some_iff.mp H
            obtain ⟨⟨t411, t412, t413, t414, t415, t416⟩, A380, H⟩ := H
            replace H : (some t411) = some r := H
            have A38 := Aside0.mk A380
            clear A380
            obtain rfl := Option.some.inj H
            go_wp2_with (first | ((with_reducible refine gate_callee (f := 11) rfl ?_); refine goesL_ (some 87) rfl rfl Try.func11 (by kernel_rfl) rfl #[.pointer (some ⟨g342, 0, none⟩), .bool true, .int .i64 a3] rfl (by (try simp only [List.map_toArray, List.map_cons, List.map_nil]); first | done | rfl | (simp only [List.length_drop, List.length_take]; rfl)) ?_; (with_reducible refine (delay_Delay_See.calls g342 t375 t376 t377 t378 t379 true a3 t387 t388 t389 t390 t391 t392 w _ ?side1 ?side2 A30.out).mono ?_); (case side1 => repeat (first | (with_reducible first | exact HI342.out | apply IsS44.alloc | apply IsS44.drewN | apply IsS44.drew | apply IsS44.set_0 | apply IsS44.set_1 | apply IsS44.set_2 | apply IsS44.set_3 | apply IsS44.set_4) | exact HI342.out)); (case side2 => repeat (first | (with_reducible first | exact HB.out | apply below_alloc | apply pw_below_drewN | apply below_drew1 | refine below_set ?_ (IsS44.ge HI342.out) | refine below_set ?_ (IsS44.ge HI348.out)) | exact HB.out)); rintro e w39 ⟨rfl, hi, hb, hk⟩; refine ⟨_, rfl, ?_⟩; have n0_ := Aside0.mk (IsS44.keepg (show IsS44 w _ g348 t382 t383 t384 t385 t386 from by repeat (first | (with_reducible first | exact HI348.out | apply IsS44.alloc | apply IsS44.drewN | apply IsS44.drew | apply IsS44.set_0 | apply IsS44.set_1 | apply IsS44.set_2 | apply IsS44.set_3 | apply IsS44.set_4) | exact HI348.out)) hk NS348_342.out); have n1_ := Aside0.mk (hb); have n2_ := Aside0.mk (hi); clear HI348; clear HB; clear HI342; have HI348 := n0_; have HB := n1_; have HI342 := n2_; clear n0_ n1_ n2_; (try clear hb); (try clear hb2); (try clear hgn); (try clear hk); (try clear hi)) | ((with_reducible refine gate_callee (f := 11) rfl ?_); refine goesL_ (some 94) rfl rfl Try.func11 (by kernel_rfl) rfl #[.pointer (some ⟨g348, 0, none⟩), .bool true, .int .i64 ji32] rfl (by (try simp only [List.map_toArray, List.map_cons, List.map_nil]); first | done | (simp only [hji32]; rfl) | rfl | (simp only [List.length_drop, List.length_take]; rfl)) ?_; (with_reducible refine (delay_Delay_See.calls g348 t382 t383 t384 t385 t386 true ji32 t393 t394 t395 t396 t397 t398 w _ ?side1 ?side2 A33.out).mono ?_); (case side1 => repeat (first | (with_reducible first | exact HI348.out | apply IsS44.alloc | apply IsS44.drewN | apply IsS44.drew | apply IsS44.set_0 | apply IsS44.set_1 | apply IsS44.set_2 | apply IsS44.set_3 | apply IsS44.set_4) | exact HI348.out)); (case side2 => repeat (first | (with_reducible first | exact HB.out | apply below_alloc | apply pw_below_drewN | apply below_drew1 | refine below_set ?_ (IsS44.ge HI342.out) | refine below_set ?_ (IsS44.ge HI348.out)) | exact HB.out)); rintro e w40 ⟨rfl, hi, hb, hk⟩; refine ⟨_, rfl, ?_⟩; have n0_ := Aside0.mk (IsS44.keepg (show IsS44 w _ g342 t388 t389 t390 t391 t392 from by repeat (first | (with_reducible first | exact HI342.out | apply IsS44.alloc | apply IsS44.drewN | apply IsS44.drew | apply IsS44.set_0 | apply IsS44.set_1 | apply IsS44.set_2 | apply IsS44.set_3 | apply IsS44.set_4) | exact HI342.out)) hk NS342_348.out); have n1_ := Aside0.mk (hb); have n2_ := Aside0.mk (hi); clear HI342; clear HB; clear HI348; have HI342 := n0_; have HB := n1_; have HI348 := n2_; clear n0_ n1_ n2_; (try clear hb); (try clear hb2); (try clear hgn); (try clear hk); (try clear hi)) | (go_at_call 15; (with_reducible refine (delay_Delay_Value.calls g342 t388 t389 t390 t391 t392 t399 t400 t401 t402 t403 t404 w _ ?side1 ?side2 A35.out).mono ?_); (case side1 => repeat (first | (with_reducible first | exact HI342.out | apply IsS44.alloc | apply IsS44.drewN | apply IsS44.drew | apply IsS44.set_0 | apply IsS44.set_1 | apply IsS44.set_2 | apply IsS44.set_3 | apply IsS44.set_4) | exact HI342.out)); (case side2 => repeat (first | (with_reducible first | exact HB.out | apply below_alloc | apply pw_below_drewN | apply below_drew1 | refine below_set ?_ (IsS44.ge HI342.out) | refine below_set ?_ (IsS44.ge HI348.out)) | exact HB.out)); rintro e w41 ⟨rfl, hi, hb, hk⟩; have n0_ := Aside0.mk (IsS44.keepg (show IsS44 w _ g348 t394 t395 t396 t397 t398 from by repeat (first | (with_reducible first | exact HI348.out | apply IsS44.alloc | apply IsS44.drewN | apply IsS44.drew | apply IsS44.set_0 | apply IsS44.set_1 | apply IsS44.set_2 | apply IsS44.set_3 | apply IsS44.set_4) | exact HI348.out)) hk NS348_342.out); have n1_ := Aside0.mk (hb); have n2_ := Aside0.mk (hi); clear HI348; clear HB; clear HI342; have HI348 := n0_; have HB := n1_; have HI342 := n2_; clear n0_ n1_ n2_; (try clear hb); (try clear hb2); (try clear hgn); (try clear hk); (try clear hi)) | (go_at_call 15; (with_reducible refine (delay_Delay_Value.calls g348 t394 t395 t396 t397 t398 t405 t406 t407 t408 t409 t410 w _ ?side1 ?side2 A36.out).mono ?_); (case side1 => repeat (first | (with_reducible first | exact HI348.out | apply IsS44.alloc | apply IsS44.drewN | apply IsS44.drew | apply IsS44.set_0 | apply IsS44.set_1 | apply IsS44.set_2 | apply IsS44.set_3 | apply IsS44.set_4) | exact HI348.out)); (case side2 => repeat (first | (with_reducible first | exact HB.out | apply below_alloc | apply pw_below_drewN | apply below_drew1 | refine below_set ?_ (IsS44.ge HI342.out) | refine below_set ?_ (IsS44.ge HI348.out)) | exact HB.out)); rintro e w42 ⟨rfl, hi, hb, hk⟩; have n0_ := Aside0.mk (IsS44.keepg (show IsS44 w _ g342 t400 t401 t402 t403 t404 from by repeat (first | (with_reducible first | exact HI342.out | apply IsS44.alloc | apply IsS44.drewN | apply IsS44.drew | apply IsS44.set_0 | apply IsS44.set_1 | apply IsS44.set_2 | apply IsS44.set_3 | apply IsS44.set_4) | exact HI342.out)) hk NS342_348.out); have n1_ := Aside0.mk (hb); have n2_ := Aside0.mk (hi); clear HI342; clear HB; clear HI348; have HI342 := n0_; have HB := n1_; have HI348 := n2_; clear n0_ n1_ n2_; (try clear hb); (try clear hb2); (try clear hgn); (try clear hk); (try clear hi)) | (go_at_call 11; (with_reducible refine (delay_Delay_See.calls g342 t400 t401 t402 t403 t404 true 4611686018427387904 t411 t412 t413 t414 t415 t416 w _ ?side1 ?side2 A38.out).mono ?_); (case side1 => repeat (first | (with_reducible first | exact HI342.out | apply IsS44.alloc | apply IsS44.drewN | apply IsS44.drew | apply IsS44.set_0 | apply IsS44.set_1 | apply IsS44.set_2 | apply IsS44.set_3 | apply IsS44.set_4) | exact HI342.out)); (case side2 => repeat (first | (with_reducible first | exact HB.out | apply below_alloc | apply pw_below_drewN | apply below_drew1 | refine below_set ?_ (IsS44.ge HI342.out) | refine below_set ?_ (IsS44.ge HI348.out)) | exact HB.out)); rintro e w43 ⟨rfl, hi, hb, hk⟩; have n0_ := Aside0.mk (IsS44.keepg (show IsS44 w _ g348 t406 t407 t408 t409 t410 from by repeat (first | (with_reducible first | exact HI348.out | apply IsS44.alloc | apply IsS44.drewN | apply IsS44.drew | apply IsS44.set_0 | apply IsS44.set_1 | apply IsS44.set_2 | apply IsS44.set_3 | apply IsS44.set_4) | exact HI348.out)) hk NS348_342.out); have n1_ := Aside0.mk (hb); have n2_ := Aside0.mk (hi); clear HI348; clear HB; clear HI342; have HI348 := n0_; have HB := n1_; have HI342 := n2_; clear n0_ n1_ n2_; (try clear hb); (try clear hb2); (try clear hgn); (try clear hk); (try clear hi)))
            go_ret
            exact ⟨by first | rfl | (simp [errW_none, errW_some] <;> rfl) | (simp only [← hji10, ← hji31, ← hji32]; first | rfl | (simp [errW_none, errW_some] <;> rfl)) | (simp [*, errW_none, errW_some] <;> rfl), by repeat (first | (with_reducible first | exact HB.out | apply below_alloc | apply pw_below_drewN | apply below_drew1 | refine below_set ?_ (IsS44.ge HI342.out) | refine below_set ?_ (IsS44.ge HI348.out)) | exact HB.out)⟩
          · rw [if_neg c37] at H
            have c37b0 : (t399 == t405) = false := by simpa using c37
            (try (have c37b1 : decide (t399 = t405) = false := by simpa using c37))
            (try (have c37b2 : (t399 == t405) = false := by simpa using c37))
            (try (have c37b3 : ¬ (t399 = t405) := by simpa using c37))
            clear c37
            obtain rfl := Option.some.inj H
            go_wp2_with (first | ((with_reducible refine gate_callee (f := 11) rfl ?_); refine goesL_ (some 87) rfl rfl Try.func11 (by kernel_rfl) rfl #[.pointer (some ⟨g342, 0, none⟩), .bool true, .int .i64 a3] rfl (by (try simp only [List.map_toArray, List.map_cons, List.map_nil]); first | done | rfl | (simp only [List.length_drop, List.length_take]; rfl)) ?_; (with_reducible refine (delay_Delay_See.calls g342 t375 t376 t377 t378 t379 true a3 t387 t388 t389 t390 t391 t392 w _ ?side1 ?side2 A30.out).mono ?_); (case side1 => repeat (first | (with_reducible first | exact HI342.out | apply IsS44.alloc | apply IsS44.drewN | apply IsS44.drew | apply IsS44.set_0 | apply IsS44.set_1 | apply IsS44.set_2 | apply IsS44.set_3 | apply IsS44.set_4) | exact HI342.out)); (case side2 => repeat (first | (with_reducible first | exact HB.out | apply below_alloc | apply pw_below_drewN | apply below_drew1 | refine below_set ?_ (IsS44.ge HI342.out) | refine below_set ?_ (IsS44.ge HI348.out)) | exact HB.out)); rintro e w44 ⟨rfl, hi, hb, hk⟩; refine ⟨_, rfl, ?_⟩; have n0_ := Aside0.mk (IsS44.keepg (show IsS44 w _ g348 t382 t383 t384 t385 t386 from by repeat (first | (with_reducible first | exact HI348.out | apply IsS44.alloc | apply IsS44.drewN | apply IsS44.drew | apply IsS44.set_0 | apply IsS44.set_1 | apply IsS44.set_2 | apply IsS44.set_3 | apply IsS44.set_4) | exact HI348.out)) hk NS348_342.out); have n1_ := Aside0.mk (hb); have n2_ := Aside0.mk (hi); clear HI348; clear HB; clear HI342; have HI348 := n0_; have HB := n1_; have HI342 := n2_; clear n0_ n1_ n2_; (try clear hb); (try clear hb2); (try clear hgn); (try clear hk); (try clear hi)) | ((with_reducible refine gate_callee (f := 11) rfl ?_); refine goesL_ (some 94) rfl rfl Try.func11 (by kernel_rfl) rfl #[.pointer (some ⟨g348, 0, none⟩), .bool true, .int .i64 ji32] rfl (by (try simp only [List.map_toArray, List.map_cons, List.map_nil]); first | done | (simp only [hji32]; rfl) | rfl | (simp only [List.length_drop, List.length_take]; rfl)) ?_; (with_reducible refine (delay_Delay_See.calls g348 t382 t383 t384 t385 t386 true ji32 t393 t394 t395 t396 t397 t398 w _ ?side1 ?side2 A33.out).mono ?_); (case side1 => repeat (first | (with_reducible first | exact HI348.out | apply IsS44.alloc | apply IsS44.drewN | apply IsS44.drew | apply IsS44.set_0 | apply IsS44.set_1 | apply IsS44.set_2 | apply IsS44.set_3 | apply IsS44.set_4) | exact HI348.out)); (case side2 => repeat (first | (with_reducible first | exact HB.out | apply below_alloc | apply pw_below_drewN | apply below_drew1 | refine below_set ?_ (IsS44.ge HI342.out) | refine below_set ?_ (IsS44.ge HI348.out)) | exact HB.out)); rintro e w45 ⟨rfl, hi, hb, hk⟩; refine ⟨_, rfl, ?_⟩; have n0_ := Aside0.mk (IsS44.keepg (show IsS44 w _ g342 t388 t389 t390 t391 t392 from by repeat (first | (with_reducible first | exact HI342.out | apply IsS44.alloc | apply IsS44.drewN | apply IsS44.drew | apply IsS44.set_0 | apply IsS44.set_1 | apply IsS44.set_2 | apply IsS44.set_3 | apply IsS44.set_4) | exact HI342.out)) hk NS342_348.out); have n1_ := Aside0.mk (hb); have n2_ := Aside0.mk (hi); clear HI342; clear HB; clear HI348; have HI342 := n0_; have HB := n1_; have HI348 := n2_; clear n0_ n1_ n2_; (try clear hb); (try clear hb2); (try clear hgn); (try clear hk); (try clear hi)) | (go_at_call 15; (with_reducible refine (delay_Delay_Value.calls g342 t388 t389 t390 t391 t392 t399 t400 t401 t402 t403 t404 w _ ?side1 ?side2 A35.out).mono ?_); (case side1 => repeat (first | (with_reducible first | exact HI342.out | apply IsS44.alloc | apply IsS44.drewN | apply IsS44.drew | apply IsS44.set_0 | apply IsS44.set_1 | apply IsS44.set_2 | apply IsS44.set_3 | apply IsS44.set_4) | exact HI342.out)); (case side2 => repeat (first | (with_reducible first | exact HB.out | apply below_alloc | apply pw_below_drewN | apply below_drew1 | refine below_set ?_ (IsS44.ge HI342.out) | refine below_set ?_ (IsS44.ge HI348.out)) | exact HB.out)); rintro e w46 ⟨rfl, hi, hb, hk⟩; have n0_ := Aside0.mk (IsS44.keepg (show IsS44 w _ g348 t394 t395 t396 t397 t398 from by repeat (first | (with_reducible first | exact HI348.out | apply IsS44.alloc | apply IsS44.drewN | apply IsS44.drew | apply IsS44.set_0 | apply IsS44.set_1 | apply IsS44.set_2 | apply IsS44.set_3 | apply IsS44.set_4) | exact HI348.out)) hk NS348_342.out); have n1_ := Aside0.mk (hb); have n2_ := Aside0.mk (hi); clear HI348; clear HB; clear HI342; have HI348 := n0_; have HB := n1_; have HI342 := n2_; clear n0_ n1_ n2_; (try clear hb); (try clear hb2); (try clear hgn); (try clear hk); (try clear hi)) | (go_at_call 15; (with_reducible refine (delay_Delay_Value.calls g348 t394 t395 t396 t397 t398 t405 t406 t407 t408 t409 t410 w _ ?side1 ?side2 A36.out).mono ?_); (case side1 => repeat (first | (with_reducible first | exact HI348.out | apply IsS44.alloc | apply IsS44.drewN | apply IsS44.drew | apply IsS44.set_0 | apply IsS44.set_1 | apply IsS44.set_2 | apply IsS44.set_3 | apply IsS44.set_4) | exact HI348.out)); (case side2 => repeat (first | (with_reducible first | exact HB.out | apply below_alloc | apply pw_below_drewN | apply below_drew1 | refine below_set ?_ (IsS44.ge HI342.out) | refine below_set ?_ (IsS44.ge HI348.out)) | exact HB.out)); rintro e w47 ⟨rfl, hi, hb, hk⟩; have n0_ := Aside0.mk (IsS44.keepg (show IsS44 w _ g342 t400 t401 t402 t403 t404 from by repeat (first | (with_reducible first | exact HI342.out | apply IsS44.alloc | apply IsS44.drewN | apply IsS44.drew | apply IsS44.set_0 | apply IsS44.set_1 | apply IsS44.set_2 | apply IsS44.set_3 | apply IsS44.set_4) | exact HI342.out)) hk NS342_348.out); have n1_ := Aside0.mk (hb); have n2_ := Aside0.mk (hi); clear HI342; clear HB; clear HI348; have HI342 := n0_; have HB := n1_; have HI348 := n2_; clear n0_ n1_ n2_; (try clear hb); (try clear hb2); (try clear hgn); (try clear hk); (try clear hi)))
            go_ret
            exact ⟨by first | rfl | (simp [errW_none, errW_some] <;> rfl) | (simp only [← hji10, ← hji31, ← hji32]; first | rfl | (simp [errW_none, errW_some] <;> rfl)) | (simp [*, errW_none, errW_some] <;> rfl), by repeat (first | (with_reducible first | exact HB.out | apply below_alloc | apply pw_below_drewN | apply below_drew1 | refine below_set ?_ (IsS44.ge HI342.out) | refine below_set ?_ (IsS44.ge HI348.out)) | exact HB.out)⟩
        · replace c34 := Bool.eq_false_iff.mpr c34
          subst c34
          have H1 : (some false) = some r := by rw [if_neg (show ¬ (false = true) by decide)] at H; exact H
          clear H
          have H := H1
          clear H1
          obtain rfl := Option.some.inj H
          go_wp2_with (first | ((with_reducible refine gate_callee (f := 11) rfl ?_); refine goesL_ (some 87) rfl rfl Try.func11 (by kernel_rfl) rfl #[.pointer (some ⟨g342, 0, none⟩), .bool true, .int .i64 a3] rfl (by (try simp only [List.map_toArray, List.map_cons, List.map_nil]); first | done | rfl | (simp only [List.length_drop, List.length_take]; rfl)) ?_; (with_reducible refine (delay_Delay_See.calls g342 t375 t376 t377 t378 t379 true a3 t387 t388 t389 t390 t391 t392 w _ ?side1 ?side2 A30.out).mono ?_); (case side1 => repeat (first | (with_reducible first | exact HI342.out | apply IsS44.alloc | apply IsS44.drewN | apply IsS44.drew | apply IsS44.set_0 | apply IsS44.set_1 | apply IsS44.set_2 | apply IsS44.set_3 | apply IsS44.set_4) | exact HI342.out)); (case side2 => repeat (first | (with_reducible first | exact HB.out | apply below_alloc | apply pw_below_drewN | apply below_drew1 | refine below_set ?_ (IsS44.ge HI342.out) | refine below_set ?_ (IsS44.ge HI348.out)) | exact HB.out)); rintro e w48 ⟨rfl, hi, hb, hk⟩; refine ⟨_, rfl, ?_⟩; have n0_ := Aside0.mk (IsS44.keepg (show IsS44 w _ g348 t382 t383 t384 t385 t386 from by repeat (first | (with_reducible first | exact HI348.out | apply IsS44.alloc | apply IsS44.drewN | apply IsS44.drew | apply IsS44.set_0 | apply IsS44.set_1 | apply IsS44.set_2 | apply IsS44.set_3 | apply IsS44.set_4) | exact HI348.out)) hk NS348_342.out); have n1_ := Aside0.mk (hb); have n2_ := Aside0.mk (hi); clear HI348; clear HB; clear HI342; have HI348 := n0_; have HB := n1_; have HI342 := n2_; clear n0_ n1_ n2_; (try clear hb); (try clear hb2); (try clear hgn); (try clear hk); (try clear hi)) | ((with_reducible refine gate_callee (f := 11) rfl ?_); refine goesL_ (some 94) rfl rfl Try.func11 (by kernel_rfl) rfl #[.pointer (some ⟨g348, 0, none⟩), .bool true, .int .i64 ji32] rfl (by (try simp only [List.map_toArray, List.map_cons, List.map_nil]); first | done | (simp only [hji32]; rfl) | rfl | (simp only [List.length_drop, List.length_take]; rfl)) ?_; (with_reducible refine (delay_Delay_See.calls g348 t382 t383 t384 t385 t386 true ji32 t393 t394 t395 t396 t397 t398 w _ ?side1 ?side2 A33.out).mono ?_); (case side1 => repeat (first | (with_reducible first | exact HI348.out | apply IsS44.alloc | apply IsS44.drewN | apply IsS44.drew | apply IsS44.set_0 | apply IsS44.set_1 | apply IsS44.set_2 | apply IsS44.set_3 | apply IsS44.set_4) | exact HI348.out)); (case side2 => repeat (first | (with_reducible first | exact HB.out | apply below_alloc | apply pw_below_drewN | apply below_drew1 | refine below_set ?_ (IsS44.ge HI342.out) | refine below_set ?_ (IsS44.ge HI348.out)) | exact HB.out)); rintro e w49 ⟨rfl, hi, hb, hk⟩; refine ⟨_, rfl, ?_⟩; have n0_ := Aside0.mk (IsS44.keepg (show IsS44 w _ g342 t388 t389 t390 t391 t392 from by repeat (first | (with_reducible first | exact HI342.out | apply IsS44.alloc | apply IsS44.drewN | apply IsS44.drew | apply IsS44.set_0 | apply IsS44.set_1 | apply IsS44.set_2 | apply IsS44.set_3 | apply IsS44.set_4) | exact HI342.out)) hk NS342_348.out); have n1_ := Aside0.mk (hb); have n2_ := Aside0.mk (hi); clear HI342; clear HB; clear HI348; have HI342 := n0_; have HB := n1_; have HI348 := n2_; clear n0_ n1_ n2_; (try clear hb); (try clear hb2); (try clear hgn); (try clear hk); (try clear hi)))
          go_ret
          exact ⟨by first | rfl | (simp [errW_none, errW_some] <;> rfl) | (simp only [← hji10, ← hji31, ← hji32]; first | rfl | (simp [errW_none, errW_some] <;> rfl)) | (simp [*, errW_none, errW_some] <;> rfl), by repeat (first | (with_reducible first | exact HB.out | apply below_alloc | apply pw_below_drewN | apply below_drew1 | refine below_set ?_ (IsS44.ge HI342.out) | refine below_set ?_ (IsS44.ge HI348.out)) | exact HB.out)⟩

/-- THE ONE PURE STATEMENT of watchkeeperlaw12_DelayLate: yours. -/
def watchkeeperlaw12_DelayLate.Pure : Prop := ∀ (a0 : Int) (a1 : Int) (a2 : Int) (a3 : Int), (Lit.int .u8 a0).wf = true → (Lit.int .u32 a1).wf = true → (Lit.int .u32 a2).wf = true → (Lit.int .i64 a3).wf = true → ∃ k, watchkeeperlaw12_DelayLate.f k a0 a1 a2 a3 = some true
theorem watchkeeperlaw12_DelayLate.walk (P : watchkeeperlaw12_DelayLate.Pure) (a0 : Int) (a1 : Int) (a2 : Int) (a3 : Int) (w : World) (w0 : (Lit.int .u8 a0).wf = true) (w1 : (Lit.int .u32 a1).wf = true) (w2 : (Lit.int .u32 a2).wf = true) (w3 : (Lit.int .i64 a3).wf = true) :
    Calls Try.prog 6 #[.int .u8 a0, .int .u32 a1, .int .u32 a2, .int .i64 a3] w fun e w' => e = .returned (.bool true) ∧ Below w.heap.size w w' := by
  obtain ⟨k, h⟩ := P a0 a1 a2 a3 w0 w1 w2 w3
  refine (watchkeeperlaw12_DelayLate.calls k a0 a1 a2 a3 true w h).mono ?_
  rintro e w' ⟨rfl, hd⟩
  exact ⟨rfl, hd⟩

/-! ### watchkeeperlaw12_DelayFirst: function 7 -/
mutual
def watchkeeperlaw12_DelayFirst.j0 : Nat → Int → Int → List Int → List Int → Bool → Bool → Int → Int → Bool → Int → Int → Option (Bool)
  | 0, _, _, _, _, _, _, _, _, _, _, _ => none
  | k + 1, x0, x1, x2, x3, x9, x33, x424000, x424001, x424002, x424003, x424004 => if x33 = true then (some x9) else ((delay_Delay_See.f x424000 x424001 x424002 x424003 x424004 true 3).bind fun bt424 => (if (bt424.1 != (x0 == 0)) = true then (some false) else (watchkeeperlaw12_DelayFirst.l0 k x0 x1 x2 x3 x9 3 3 0 bt424.2.1 bt424.2.2.1 bt424.2.2.2.1 bt424.2.2.2.2.1 bt424.2.2.2.2.2)))
def watchkeeperlaw12_DelayFirst.l0 : Nat → Int → Int → List Int → List Int → Bool → Int → Int → Int → Int → Int → Bool → Int → Int → Option (Bool)
  | 0, _, _, _, _, _, _, _, _, _, _, _, _, _ => none
  | k + 1, x0, x1, x2, x3, x9, x11, x12, x14, x424000, x424001, x424002, x424003, x424004 => if x14 < (x2.length : Int) then (if 0 ≤ x14 then ((delay_Delay_See.f x424000 x424001 x424002 x424003 x424004 true (wrap64 (x11 + (wrap64 (rd x2 x14))))).bind fun bt431 => (if (bt431.1 != (decide ((wrap64 ((wrap64 (x11 + (wrap64 (rd x2 x14)))) - x12)) ≥ (wrap64 (x0))))) = true then (some false) else (watchkeeperlaw12_DelayFirst.l0 k x0 x1 x2 x3 x9 (wrap64 (x11 + (wrap64 (rd x2 x14)))) x12 (wrap64 (x14 + 1)) bt431.2.1 bt431.2.2.1 bt431.2.2.2.1 bt431.2.2.2.2.1 bt431.2.2.2.2.2))) else (none)) else ((delay_Delay_Value.f x424000 x424001 x424002 x424003 x424004).bind fun bt437 => (if bt437.1 = true then ((delay_Delay_See.f bt437.2.1 bt437.2.2.1 bt437.2.2.2.1 bt437.2.2.2.2.1 bt437.2.2.2.2.2 false x11).bind fun bt443 => (if (bt443.1 != (x1 != 0)) = true then (some false) else (watchkeeperlaw12_DelayFirst.l1 k x1 x3 x9 x11 x11 0 bt443.2.1 bt443.2.2.1 bt443.2.2.2.1 bt443.2.2.2.2.1 bt443.2.2.2.2.2))) else (if x9 = true then (some (decide ((wrap64 (x11 - x12)) < (wrap64 (x0))))) else (some false))))
def watchkeeperlaw12_DelayFirst.l1 : Nat → Int → List Int → Bool → Int → Int → Int → Int → Int → Bool → Int → Int → Option (Bool)
  | 0, _, _, _, _, _, _, _, _, _, _, _ => none
  | k + 1, x1, x3, x9, x11, x12, x15, x424000, x424001, x424002, x424003, x424004 => if x15 < (x3.length : Int) then (if 0 ≤ x15 then ((delay_Delay_See.f x424000 x424001 x424002 x424003 x424004 false (wrap64 (x11 + (wrap64 (rd x3 x15))))).bind fun bt450 => (if (bt450.1 != (decide ((wrap64 ((wrap64 (x11 + (wrap64 (rd x3 x15)))) - x12)) < (wrap64 (x1))))) = true then (some false) else (watchkeeperlaw12_DelayFirst.l1 k x1 x3 x9 (wrap64 (x11 + (wrap64 (rd x3 x15)))) x12 (wrap64 (x15 + 1)) bt450.2.1 bt450.2.2.1 bt450.2.2.2.1 bt450.2.2.2.2.1 bt450.2.2.2.2.2))) else (none)) else (some x9)
end
def watchkeeperlaw12_DelayFirst.f (k : Nat) (a0 : Int) (a1 : Int) (l2 : List Int) (l3 : List Int) : Option (Bool) := (watchkeeperlaw12_head.f).bind fun t417 => ((delay_New.f (wrap64 (a0)) (wrap64 (a1))).bind fun bt418 => (if (l2.length : Int) > 300 then (watchkeeperlaw12_DelayFirst.j0 k a0 a1 l2 l3 t417 true bt418.1 bt418.2.1 bt418.2.2.1 bt418.2.2.2.1 bt418.2.2.2.2) else (watchkeeperlaw12_DelayFirst.j0 k a0 a1 l2 l3 t417 (decide ((l3.length : Int) > 300)) bt418.1 bt418.2.1 bt418.2.2.1 bt418.2.2.2.1 bt418.2.2.2.2)))
theorem watchkeeperlaw12_DelayFirst.mono_l : ∀ k, (∀ y0 y1 y2 y3 y4 y5 y6 y7 y8 y9 y10, LeO (watchkeeperlaw12_DelayFirst.j0 k y0 y1 y2 y3 y4 y5 y6 y7 y8 y9 y10) (watchkeeperlaw12_DelayFirst.j0 (k + 1) y0 y1 y2 y3 y4 y5 y6 y7 y8 y9 y10)) ∧ (∀ y0 y1 y2 y3 y4 y5 y6 y7 y8 y9 y10 y11 y12, LeO (watchkeeperlaw12_DelayFirst.l0 k y0 y1 y2 y3 y4 y5 y6 y7 y8 y9 y10 y11 y12) (watchkeeperlaw12_DelayFirst.l0 (k + 1) y0 y1 y2 y3 y4 y5 y6 y7 y8 y9 y10 y11 y12)) ∧ (∀ y0 y1 y2 y3 y4 y5 y6 y7 y8 y9 y10, LeO (watchkeeperlaw12_DelayFirst.l1 k y0 y1 y2 y3 y4 y5 y6 y7 y8 y9 y10) (watchkeeperlaw12_DelayFirst.l1 (k + 1) y0 y1 y2 y3 y4 y5 y6 y7 y8 y9 y10))
  | 0 => ⟨fun _ _ _ _ _ _ _ _ _ _ _ r h => by simp [watchkeeperlaw12_DelayFirst.j0] at h, fun _ _ _ _ _ _ _ _ _ _ _ _ _ r h => by simp [watchkeeperlaw12_DelayFirst.l0] at h, fun _ _ _ _ _ _ _ _ _ _ _ r h => by simp [watchkeeperlaw12_DelayFirst.l1] at h⟩
  | k + 1 => by
    obtain ⟨ih0, ih1, ih2⟩ := watchkeeperlaw12_DelayFirst.mono_l k
    refine ⟨?_, ?_, ?_⟩
    · intro y0 y1 y2 y3 y4 y5 y6 y7 y8 y9 y10
      unfold watchkeeperlaw12_DelayFirst.j0
      repeat' first
      | (with_reducible exact ih0 _ _ _ _ _ _ _ _ _ _ _)
      | (with_reducible exact ih1 _ _ _ _ _ _ _ _ _ _ _ _ _)
      | (with_reducible exact ih2 _ _ _ _ _ _ _ _ _ _ _)
      | (with_reducible exact LeO.refl _)
      | (with_reducible exact LeO.none _)
      | (with_reducible refine LeO.ite ?_ ?_)
      | (with_reducible refine LeO.bind ?_ (fun _ => ?_))
      | exact ih0 _ _ _ _ _ _ _ _ _ _ _
      | exact ih1 _ _ _ _ _ _ _ _ _ _ _ _ _
      | exact ih2 _ _ _ _ _ _ _ _ _ _ _
      | exact LeO.none _
      | refine LeO.ite ?_ ?_
      | refine LeO.bind ?_ (fun _ => ?_)
    · intro y0 y1 y2 y3 y4 y5 y6 y7 y8 y9 y10 y11 y12
      unfold watchkeeperlaw12_DelayFirst.l0
      repeat' first
      | (with_reducible exact ih0 _ _ _ _ _ _ _ _ _ _ _)
      | (with_reducible exact ih1 _ _ _ _ _ _ _ _ _ _ _ _ _)
      | (with_reducible exact ih2 _ _ _ _ _ _ _ _ _ _ _)
      | (with_reducible exact LeO.refl _)
      | (with_reducible exact LeO.none _)
      | (with_reducible refine LeO.ite ?_ ?_)
      | (with_reducible refine LeO.bind ?_ (fun _ => ?_))
      | exact ih0 _ _ _ _ _ _ _ _ _ _ _
      | exact ih1 _ _ _ _ _ _ _ _ _ _ _ _ _
      | exact ih2 _ _ _ _ _ _ _ _ _ _ _
      | exact LeO.none _
      | refine LeO.ite ?_ ?_
      | refine LeO.bind ?_ (fun _ => ?_)
    · intro y0 y1 y2 y3 y4 y5 y6 y7 y8 y9 y10
      unfold watchkeeperlaw12_DelayFirst.l1
      repeat' first
      | (with_reducible exact ih0 _ _ _ _ _ _ _ _ _ _ _)
      | (with_reducible exact ih1 _ _ _ _ _ _ _ _ _ _ _ _ _)
      | (with_reducible exact ih2 _ _ _ _ _ _ _ _ _ _ _)
      | (with_reducible exact LeO.refl _)
      | (with_reducible exact LeO.none _)
      | (with_reducible refine LeO.ite ?_ ?_)
      | (with_reducible refine LeO.bind ?_ (fun _ => ?_))
      | exact ih0 _ _ _ _ _ _ _ _ _ _ _
      | exact ih1 _ _ _ _ _ _ _ _ _ _ _ _ _
      | exact ih2 _ _ _ _ _ _ _ _ _ _ _
      | exact LeO.none _
      | refine LeO.ite ?_ ?_
      | refine LeO.bind ?_ (fun _ => ?_)
theorem watchkeeperlaw12_DelayFirst.mono : ∀ a0 a1 a2 a3 k, LeO (watchkeeperlaw12_DelayFirst.f k a0 a1 a2 a3) (watchkeeperlaw12_DelayFirst.f (k + 1) a0 a1 a2 a3) := by
  intro a0 a1 a2 a3 k
  obtain ⟨ih0, ih1, ih2⟩ := watchkeeperlaw12_DelayFirst.mono_l k
  unfold watchkeeperlaw12_DelayFirst.f
  repeat' first
      | (with_reducible exact ih0 _ _ _ _ _ _ _ _ _ _ _)
      | (with_reducible exact ih1 _ _ _ _ _ _ _ _ _ _ _ _ _)
      | (with_reducible exact ih2 _ _ _ _ _ _ _ _ _ _ _)
      | (with_reducible exact LeO.refl _)
      | (with_reducible exact LeO.none _)
      | (with_reducible refine LeO.ite ?_ ?_)
      | (with_reducible refine LeO.bind ?_ (fun _ => ?_))
      | exact ih0 _ _ _ _ _ _ _ _ _ _ _
      | exact ih1 _ _ _ _ _ _ _ _ _ _ _ _ _
      | exact ih2 _ _ _ _ _ _ _ _ _ _ _
      | exact LeO.none _
      | refine LeO.ite ?_ ?_
      | refine LeO.bind ?_ (fun _ => ?_)
set_option maxHeartbeats 8000000 in
set_option maxRecDepth 100000 in
theorem watchkeeperlaw12_DelayFirst.calls (k : Nat) (a0 : Int) (a1 : Int) (A2 : Option Addr) (c2 : Nat) (l2 : List Int) (A3 : Option Addr) (c3 : Nat) (l3 : List Int) (r : Bool) (w : World) (hr2 : Kd.C (Kd.int .u8) w A2 l2.length l2) (hc2 : l2.length ≤ c2) (hr3 : Kd.C (Kd.int .u8) w A3 l3.length l3) (hc3 : l3.length ≤ c3) (h : watchkeeperlaw12_DelayFirst.f k a0 a1 l2 l3 = some r) :
    Calls Try.prog 7 #[.int .u8 a0, .int .u8 a1, .slice A2 l2.length c2, .slice A3 l3.length c3] w fun e w' => e = .returned (.bool r) ∧ Below w.heap.size w w' := by
  have HR2 := Aside0.mk hr2
  have HC2 := Aside0.mk hc2
  clear hr2 hc2
  have HR3 := Aside0.mk hr3
  have HC3 := Aside0.mk hc3
  clear hr3 hc3
  have HB := Aside0.mk (Below.refl w.heap.size w)
  have H : ((watchkeeperlaw12_head.f).bind fun t417 => ((delay_New.f (wrap64 (a0)) (wrap64 (a1))).bind fun bt418 => (if (l2.length : Int) > 300 then (watchkeeperlaw12_DelayFirst.j0 k a0 a1 l2 l3 t417 true bt418.1 bt418.2.1 bt418.2.2.1 bt418.2.2.2.1 bt418.2.2.2.2) else (watchkeeperlaw12_DelayFirst.j0 k a0 a1 l2 l3 t417 (decide ((l3.length : Int) > 300)) bt418.1 bt418.2.1 bt418.2.2.1 bt418.2.2.2.1 bt418.2.2.2.2)))) = some r := h
  clear h
  replace H := Option.bind_eq_some_iff.mp H
  obtain ⟨t417, A50, H⟩ := H
  replace H : ((delay_New.f (wrap64 (a0)) (wrap64 (a1))).bind fun bt418 => (if (l2.length : Int) > 300 then (watchkeeperlaw12_DelayFirst.j0 k a0 a1 l2 l3 t417 true bt418.1 bt418.2.1 bt418.2.2.1 bt418.2.2.2.1 bt418.2.2.2.2) else (watchkeeperlaw12_DelayFirst.j0 k a0 a1 l2 l3 t417 (decide ((l3.length : Int) > 300)) bt418.1 bt418.2.1 bt418.2.2.1 bt418.2.2.2.1 bt418.2.2.2.2))) = some r := H
  have A5 := Aside0.mk A50
  clear A50
  replace H := Option.bind_eq_some_iff.mp H
  obtain ⟨⟨t418, t419, t420, t421, t422⟩, A60, H⟩ := H
  replace H : (if (l2.length : Int) > 300 then (watchkeeperlaw12_DelayFirst.j0 k a0 a1 l2 l3 t417 true t418 t419 t420 t421 t422) else (watchkeeperlaw12_DelayFirst.j0 k a0 a1 l2 l3 t417 (decide ((l3.length : Int) > 300)) t418 t419 t420 t421 t422)) = some r := H
  have A6 := Aside0.mk A60
  clear A60
  have HC7 := Aside0.mk H
  clear H
  go_enter Try.func7, Try.ntmps7
  go_upto_region 3 with (first | ((with_reducible refine gate_callee (f := 8) rfl ?_); refine goesL_ (some 16) rfl rfl Try.func8 (by kernel_rfl) rfl #[] rfl (by (try simp only [List.map_toArray, List.map_cons, List.map_nil]); first | done | rfl | (simp only [List.length_drop, List.length_take]; rfl)) ?_; (with_reducible refine (watchkeeperlaw12_head.calls  t417 _ A5.out).mono ?_); rintro e w8 ⟨rfl, hb⟩; refine ⟨_, rfl, ?_⟩; have n0_ := Aside0.mk (below_step (by repeat (first | (with_reducible first | exact HB.out | apply below_alloc | apply pw_below_drewN | apply below_drew1) | exact HB.out)) hb); clear HB; have HB := n0_; clear n0_; (try clear hb); (try clear hb2); (try clear hgn); (try clear hk); (try clear hi)) | ((with_reducible refine gate_callee (f := 9) rfl ?_); refine goesL_ (some 21) rfl rfl Try.func9 (by kernel_rfl) rfl #[.int .i64 (wrap64 (a0)), .int .i64 (wrap64 (a1))] rfl (by (try simp only [List.map_toArray, List.map_cons, List.map_nil]); first | done | rfl | (simp only [List.length_drop, List.length_take]; rfl)) ?_; (with_reducible refine (delay_New.calls (wrap64 (a0)) (wrap64 (a1)) t418 t419 t420 t421 t422 w _ ?side1 A6.out).mono ?_); (case side1 => repeat (first | (with_reducible first | exact HB.out | apply below_alloc | apply pw_below_drewN | apply below_drew1) | exact HB.out)); rintro e w9 ⟨g423, rfl, hi, hb, hb2, hgn⟩; refine ⟨_, rfl, ?_⟩; have n0_ := Aside0.mk (hb); have n1_ := Aside0.mk (hi); clear HB; have HB := n0_; have HI423 := n1_; clear n0_ n1_; (try clear hb); (try clear hb2); (try clear hgn); (try clear hk); (try clear hi)))
  (try simp only [Act.put, List.setIfInBounds_toArray, List.set_cons_zero, List.set_cons_succ])
  go_cut [33] (fun v33 wc => ∃ (kq : Nat) (x33_6 : Bool), v33 = .bool x33_6 ∧ Aside0 (watchkeeperlaw12_DelayFirst.j0 kq a0 a1 l2 l3 t417 x33_6 t418 t419 t420 t421 t422 = some r) ∧ Aside0 (kq ≤ k) ∧ Aside0 (IsS44 w wc g423 t418 t419 t420 t421 t422) ∧ Aside0 (Below w.heap.size w wc))
  case first =>
    have H := HC7.out
    clear HC7
    by_cases c10 : (l2.length : Int) > 300
    · rw [if_pos c10] at H
      have c10b0 : decide (300 < (l2.length : Int)) = true := decide_eq_true c10
      have c10b1 : decide (300 < l2.length) = true := decide_eq_true (by omega)
      clear c10
      (first | rw [c10b0] | (simp only [i64_w, i32_w]; rw [c10b0]) | skip)
      have H' := Aside0.mk H
      clear H
      go_wp2
      go_meet
      case rel => exact ⟨_, (true), (by first | rfl | (simp; done) | (simp [*]; done)), H', ⟨by first | omega | exact Nat.le_refl _⟩, ⟨by repeat (first | (with_reducible first | exact HI423.out | apply IsS44.alloc | apply IsS44.drewN | apply IsS44.drew | apply IsS44.set_0 | apply IsS44.set_1 | apply IsS44.set_2 | apply IsS44.set_3 | apply IsS44.set_4) | exact HI423.out)⟩, ⟨by repeat (first | (with_reducible first | exact HB.out | apply below_alloc | apply pw_below_drewN | apply below_drew1 | refine below_set ?_ (IsS44.ge HI423.out)) | exact HB.out)⟩⟩
    · rw [if_neg c10] at H
      have c10b0 : decide (300 < (l2.length : Int)) = false := decide_eq_false c10
      have c10b1 : decide (300 < l2.length) = false := decide_eq_false (by omega)
      clear c10
      (first | rw [c10b0] | (simp only [i64_w, i32_w]; rw [c10b0]) | skip)
      have H' := Aside0.mk H
      clear H
      go_wp2
      go_meet
      case rel => exact ⟨_, (decide ((l3.length : Int) > 300)), (by first | rfl | (simp; done) | (simp [*]; done)), H', ⟨by first | omega | exact Nat.le_refl _⟩, ⟨by repeat (first | (with_reducible first | exact HI423.out | apply IsS44.alloc | apply IsS44.drewN | apply IsS44.drew | apply IsS44.set_0 | apply IsS44.set_1 | apply IsS44.set_2 | apply IsS44.set_3 | apply IsS44.set_4) | exact HI423.out)⟩, ⟨by repeat (first | (with_reducible first | exact HB.out | apply below_alloc | apply pw_below_drewN | apply below_drew1 | refine below_set ?_ (IsS44.ge HI423.out)) | exact HB.out)⟩⟩
  case rest =>
    clear HC7
    try clear c1
    try clear c2
    try clear p2
    try clear c3
    try clear p6
    try clear c7
    try clear c8
    try clear c9
    try clear c10
    try clear c10b0
    try clear c10b1
    obtain ⟨kq, x33_6, rfl, HA, HJ6, HI423, HB⟩ := hcut
    cases kq with
    | zero => exact absurd HA.out (by simp [watchkeeperlaw12_DelayFirst.j0])
    | succ kj6 =>
      have H := HA.out
      clear HA
      simp only [watchkeeperlaw12_DelayFirst.j0] at H
      by_cases c11 : x33_6 = true
      · subst c11
        have H1 : (some t417) = some r := by rw [if_pos rfl] at H; exact H
        clear H
        have H := H1
        clear H1
        obtain rfl := Option.some.inj H
        go_wp2
        go_ret
        exact ⟨by first | rfl | (simp [errW_none, errW_some] <;> rfl) | (simp [*, errW_none, errW_some] <;> rfl), by repeat (first | (with_reducible first | exact HB.out | apply below_alloc | apply pw_below_drewN | apply below_drew1 | refine below_set ?_ (IsS44.ge HI423.out)) | exact HB.out)⟩
      · replace c11 := Bool.eq_false_iff.mpr c11
        subst c11
        have H1 : ((delay_Delay_See.f t418 t419 t420 t421 t422 true 3).bind fun bt424 => (if (bt424.1 != (a0 == 0)) = true then (some false) else (watchkeeperlaw12_DelayFirst.l0 kj6 a0 a1 l2 l3 t417 3 3 0 bt424.2.1 bt424.2.2.1 bt424.2.2.2.1 bt424.2.2.2.2.1 bt424.2.2.2.2.2))) = some r := by rw [if_neg (show ¬ (false = true) by decide)] at H; exact H
        clear H
        have H := H1
        clear H1
        replace H := Option.bind_eq_some_iff.mp H
        obtain ⟨⟨t424, t425, t426, t427, t428, t429⟩, A120, H⟩ := H
        replace H : (if (t424 != (a0 == 0)) = true then (some false) else (watchkeeperlaw12_DelayFirst.l0 kj6 a0 a1 l2 l3 t417 3 3 0 t425 t426 t427 t428 t429)) = some r := H
        have A12 := Aside0.mk A120
        clear A120
        by_cases c13 : (t424 != (a0 == 0)) = true
        · rw [if_pos c13] at H
          have c13b0 : (t424 != (a0 == 0)) = true := c13
          (try (have c13b1 : decide (t424 = (a0 == 0)) = false := by simpa using c13))
          (try (have c13b2 : (t424 == (a0 == 0)) = false := by simpa using c13))
          (try (have c13b3 : ¬ (t424 = (a0 == 0)) := by simpa using c13))
          clear c13
          obtain rfl := Option.some.inj H
          go_wp2_with (first | ((with_reducible refine gate_callee (f := 11) rfl ?_); refine goesL_ (some 42) rfl rfl Try.func11 (by kernel_rfl) rfl #[.pointer (some ⟨g423, 0, none⟩), .bool true, .int .i64 3] rfl (by (try simp only [List.map_toArray, List.map_cons, List.map_nil]); first | done | rfl | (simp only [List.length_drop, List.length_take]; rfl)) ?_; (with_reducible refine (delay_Delay_See.calls g423 t418 t419 t420 t421 t422 true 3 t424 t425 t426 t427 t428 t429 w _ ?side1 ?side2 A12.out).mono ?_); (case side1 => repeat (first | (with_reducible first | exact HI423.out | apply IsS44.alloc | apply IsS44.drewN | apply IsS44.drew | apply IsS44.set_0 | apply IsS44.set_1 | apply IsS44.set_2 | apply IsS44.set_3 | apply IsS44.set_4) | exact HI423.out)); (case side2 => repeat (first | (with_reducible first | exact HB.out | apply below_alloc | apply pw_below_drewN | apply below_drew1 | refine below_set ?_ (IsS44.ge HI423.out)) | exact HB.out)); rintro e w14 ⟨rfl, hi, hb, hk⟩; refine ⟨_, rfl, ?_⟩; have n0_ := Aside0.mk (hb); have n1_ := Aside0.mk (hi); clear HB; clear HI423; have HB := n0_; have HI423 := n1_; clear n0_ n1_; (try clear hb); (try clear hb2); (try clear hgn); (try clear hk); (try clear hi)))
          go_ret
          exact ⟨by first | rfl | (simp [errW_none, errW_some] <;> rfl) | (simp [*, errW_none, errW_some] <;> rfl), by repeat (first | (with_reducible first | exact HB.out | apply below_alloc | apply pw_below_drewN | apply below_drew1 | refine below_set ?_ (IsS44.ge HI423.out)) | exact HB.out)⟩
        · rw [if_neg c13] at H
          have c13b0 : (t424 != (a0 == 0)) = false := by simpa using c13
          (try (have c13b1 : decide (t424 = (a0 == 0)) = true := by simpa using c13))
          (try (have c13b2 : (t424 == (a0 == 0)) = true := by simpa using c13))
          clear c13
          have H' := Aside0.mk H
          clear H
          go_wp2_with (first | ((with_reducible refine gate_callee (f := 11) rfl ?_); refine goesL_ (some 42) rfl rfl Try.func11 (by kernel_rfl) rfl #[.pointer (some ⟨g423, 0, none⟩), .bool true, .int .i64 3] rfl (by (try simp only [List.map_toArray, List.map_cons, List.map_nil]); first | done | rfl | (simp only [List.length_drop, List.length_take]; rfl)) ?_; (with_reducible refine (delay_Delay_See.calls g423 t418 t419 t420 t421 t422 true 3 t424 t425 t426 t427 t428 t429 w _ ?side1 ?side2 A12.out).mono ?_); (case side1 => repeat (first | (with_reducible first | exact HI423.out | apply IsS44.alloc | apply IsS44.drewN | apply IsS44.drew | apply IsS44.set_0 | apply IsS44.set_1 | apply IsS44.set_2 | apply IsS44.set_3 | apply IsS44.set_4) | exact HI423.out)); (case side2 => repeat (first | (with_reducible first | exact HB.out | apply below_alloc | apply pw_below_drewN | apply below_drew1 | refine below_set ?_ (IsS44.ge HI423.out)) | exact HB.out)); rintro e w15 ⟨rfl, hi, hb, hk⟩; refine ⟨_, rfl, ?_⟩; have n0_ := Aside0.mk (hb); have n1_ := Aside0.mk (hi); clear HB; clear HI423; have HB := n0_; have HI423 := n1_; clear n0_ n1_; (try clear hb); (try clear hb2); (try clear hgn); (try clear hk); (try clear hi)))
          go_loopg [11, 14] kj6 (fun kq v11 v14 w' => ∃ (x11_2 : Int) (x14_2 : Int) (x424000_2 : Int) (x424001_2 : Int) (x424002_2 : Bool) (x424003_2 : Int) (x424004_2 : Int), v11 = .int .i64 x11_2 ∧ v14 = .int .i64 x14_2 ∧ Aside0 (watchkeeperlaw12_DelayFirst.l0 kq a0 a1 l2 l3 t417 x11_2 3 x14_2 x424000_2 x424001_2 x424002_2 x424003_2 x424004_2 = some r) ∧ Aside0 (kq ≤ kj6) ∧ Aside0 (IsS44 w w' g423 x424000_2 x424001_2 x424002_2 x424003_2 x424004_2) ∧ Aside0 (Below w.heap.size w w'))
          case atStart => exact ⟨(3), (0), (t425), (t426), (t427), (t428), (t429), (by first | rfl | (simp; done) | (simp [*]; done)), (by first | rfl | (simp; done) | (simp [*]; done)), H', ⟨Nat.le_refl _⟩, ⟨by repeat (first | (with_reducible first | exact HI423.out | apply IsS44.alloc | apply IsS44.drewN | apply IsS44.drew | apply IsS44.set_0 | apply IsS44.set_1 | apply IsS44.set_2 | apply IsS44.set_3 | apply IsS44.set_4) | exact HI423.out)⟩, ⟨by repeat (first | (with_reducible first | exact HB.out | apply below_alloc | apply pw_below_drewN | apply below_drew1 | refine below_set ?_ (IsS44.ge HI423.out)) | exact HB.out)⟩⟩
          case round =>
            clear H'
            try clear c1
            try clear c2
            try clear p2
            try clear c3
            try clear p6
            try clear c7
            try clear c8
            try clear c9
            try clear c10
            try clear c10b0
            try clear c10b1
            try clear c11
            try clear c13
            try clear c13b0
            try clear c13b1
            try clear c13b2
            try clear p2
            try clear p6
            obtain ⟨x11_2, x14_2, x424000_2, x424001_2, x424002_2, x424003_2, x424004_2, rfl, rfl, HA, HK2, HI423, HB⟩ := hrel
            cases gk with
            | zero => exact absurd HA.out (by simp [watchkeeperlaw12_DelayFirst.l0])
            | succ k2 =>
              have H := HA.out
              clear HA
              simp only [watchkeeperlaw12_DelayFirst.l0] at H
              by_cases c16 : x14_2 < (l2.length : Int)
              · rw [if_pos c16] at H
                have c16b0 : decide (x14_2 < (l2.length : Int)) = true := decide_eq_true c16
                clear c16
                by_cases c17 : 0 ≤ x14_2
                · rw [if_pos c17] at H
                  have c17b0 : decide (0 ≤ x14_2) = true := decide_eq_true c17
                  clear c17
                  replace H := Option.bind_eq_some_iff.mp H
                  obtain ⟨⟨t431, t432, t433, t434, t435, t436⟩, A180, H⟩ := H
                  replace H : (if (t431 != (decide ((wrap64 ((wrap64 (x11_2 + (wrap64 (rd l2 x14_2)))) - 3)) ≥ (wrap64 (a0))))) = true then (some false) else (watchkeeperlaw12_DelayFirst.l0 k2 a0 a1 l2 l3 t417 (wrap64 (x11_2 + (wrap64 (rd l2 x14_2)))) 3 (wrap64 (x14_2 + 1)) t432 t433 t434 t435 t436)) = some r := H
                  have A18 := Aside0.mk A180
                  clear A180
                  by_cases c19 : (t431 != (decide ((wrap64 ((wrap64 (x11_2 + (wrap64 (rd l2 x14_2)))) - 3)) ≥ (wrap64 (a0))))) = true
                  · rw [if_pos c19] at H
                    have c19b0 : (t431 != (decide ((wrap64 ((wrap64 (x11_2 + (wrap64 (rd l2 x14_2)))) - 3)) ≥ (wrap64 (a0))))) = true := c19
                    (try (have c19b1 : decide (t431 = (decide ((wrap64 ((wrap64 (x11_2 + (wrap64 (rd l2 x14_2)))) - 3)) ≥ (wrap64 (a0))))) = false := by simpa using c19))
                    (try (have c19b2 : (t431 == (decide ((wrap64 ((wrap64 (x11_2 + (wrap64 (rd l2 x14_2)))) - 3)) ≥ (wrap64 (a0))))) = false := by simpa using c19))
                    (try (have c19b3 : ¬ (t431 = (decide ((wrap64 ((wrap64 (x11_2 + (wrap64 (rd l2 x14_2)))) - 3)) ≥ (wrap64 (a0))))) := by simpa using c19))
                    clear c19
                    obtain rfl := Option.some.inj H
                    have p430 : 0 ≤ (x14_2 : Int) := of_decide_eq_true (by first | (with_reducible assumption) | assumption)
                    have q430 : x14_2 < (l2.length : Int) := of_decide_eq_true (by first | (with_reducible assumption) | assumption)
                    obtain ⟨ad430, e430, hx430_0⟩ := Kd.at_int HR2.out x14_2 p430 q430
                    cases e430
                    replace hx430_0 := (HB.out.cell (World.block_lt_of_cell? w _ hx430_0)).trans hx430_0
                    replace p430 := eq_true p430
                    replace q430 := eq_true q430
                    go_wp2_with (first | ((with_reducible refine gate_callee (f := 11) rfl ?_); refine goesL_ (some 62) rfl rfl Try.func11 (by kernel_rfl) rfl #[.pointer (some ⟨g423, 0, none⟩), .bool true, .int .i64 (wrap64 (x11_2 + (wrap64 (rd l2 x14_2))))] rfl (by (try simp only [List.map_toArray, List.map_cons, List.map_nil]); first | done | rfl | (simp only [List.length_drop, List.length_take]; rfl)) ?_; (with_reducible refine (delay_Delay_See.calls g423 x424000_2 x424001_2 x424002_2 x424003_2 x424004_2 true (wrap64 (x11_2 + (wrap64 (rd l2 x14_2)))) t431 t432 t433 t434 t435 t436 w _ ?side1 ?side2 A18.out).mono ?_); (case side1 => repeat (first | (with_reducible first | exact HI423.out | apply IsS44.alloc | apply IsS44.drewN | apply IsS44.drew | apply IsS44.set_0 | apply IsS44.set_1 | apply IsS44.set_2 | apply IsS44.set_3 | apply IsS44.set_4) | exact HI423.out)); (case side2 => repeat (first | (with_reducible first | exact HB.out | apply below_alloc | apply pw_below_drewN | apply below_drew1 | refine below_set ?_ (IsS44.ge HI423.out)) | exact HB.out)); rintro e w20 ⟨rfl, hi, hb, hk⟩; refine ⟨_, rfl, ?_⟩; have n0_ := Aside0.mk (hb); have n1_ := Aside0.mk (hi); clear HB; clear HI423; have HB := n0_; have HI423 := n1_; clear n0_ n1_; (try clear hb); (try clear hb2); (try clear hgn); (try clear hk); (try clear hi)))
                    go_ret
                    exact ⟨by first | rfl | (simp [errW_none, errW_some] <;> rfl) | (simp [*, errW_none, errW_some] <;> rfl), by repeat (first | (with_reducible first | exact HB.out | apply below_alloc | apply pw_below_drewN | apply below_drew1 | refine below_set ?_ (IsS44.ge HI423.out)) | exact HB.out)⟩
                  · rw [if_neg c19] at H
                    have c19b0 : (t431 != (decide ((wrap64 ((wrap64 (x11_2 + (wrap64 (rd l2 x14_2)))) - 3)) ≥ (wrap64 (a0))))) = false := by simpa using c19
                    (try (have c19b1 : decide (t431 = (decide ((wrap64 ((wrap64 (x11_2 + (wrap64 (rd l2 x14_2)))) - 3)) ≥ (wrap64 (a0))))) = true := by simpa using c19))
                    (try (have c19b2 : (t431 == (decide ((wrap64 ((wrap64 (x11_2 + (wrap64 (rd l2 x14_2)))) - 3)) ≥ (wrap64 (a0))))) = true := by simpa using c19))
                    clear c19
                    have H' := Aside0.mk H
                    clear H
                    have p430 : 0 ≤ (x14_2 : Int) := of_decide_eq_true (by first | (with_reducible assumption) | assumption)
                    have q430 : x14_2 < (l2.length : Int) := of_decide_eq_true (by first | (with_reducible assumption) | assumption)
                    obtain ⟨ad430, e430, hx430_0⟩ := Kd.at_int HR2.out x14_2 p430 q430
                    cases e430
                    replace hx430_0 := (HB.out.cell (World.block_lt_of_cell? w _ hx430_0)).trans hx430_0
                    replace p430 := eq_true p430
                    replace q430 := eq_true q430
                    go_wp2_with (first | ((with_reducible refine gate_callee (f := 11) rfl ?_); refine goesL_ (some 62) rfl rfl Try.func11 (by kernel_rfl) rfl #[.pointer (some ⟨g423, 0, none⟩), .bool true, .int .i64 (wrap64 (x11_2 + (wrap64 (rd l2 x14_2))))] rfl (by (try simp only [List.map_toArray, List.map_cons, List.map_nil]); first | done | rfl | (simp only [List.length_drop, List.length_take]; rfl)) ?_; (with_reducible refine (delay_Delay_See.calls g423 x424000_2 x424001_2 x424002_2 x424003_2 x424004_2 true (wrap64 (x11_2 + (wrap64 (rd l2 x14_2)))) t431 t432 t433 t434 t435 t436 w _ ?side1 ?side2 A18.out).mono ?_); (case side1 => repeat (first | (with_reducible first | exact HI423.out | apply IsS44.alloc | apply IsS44.drewN | apply IsS44.drew | apply IsS44.set_0 | apply IsS44.set_1 | apply IsS44.set_2 | apply IsS44.set_3 | apply IsS44.set_4) | exact HI423.out)); (case side2 => repeat (first | (with_reducible first | exact HB.out | apply below_alloc | apply pw_below_drewN | apply below_drew1 | refine below_set ?_ (IsS44.ge HI423.out)) | exact HB.out)); rintro e w21 ⟨rfl, hi, hb, hk⟩; refine ⟨_, rfl, ?_⟩; have n0_ := Aside0.mk (hb); have n1_ := Aside0.mk (hi); clear HB; clear HI423; have HB := n0_; have HI423 := n1_; clear n0_ n1_; (try clear hb); (try clear hb2); (try clear hgn); (try clear hk); (try clear hi)))
                    go_roundg k2
                    case measure => have := HJ6.out; have := HK2.out; omega
                    case rel => exact ⟨(wrap64 (x11_2 + (wrap64 (rd l2 x14_2)))), (wrap64 (x14_2 + 1)), (t432), (t433), (t434), (t435), (t436), (by first | rfl | (simp; done) | (simp [*]; done)), (by first | rfl | (simp; done) | (simp [*]; done)), H', ⟨by have := HJ6.out; have := HK2.out; omega⟩, ⟨by repeat (first | (with_reducible first | exact HI423.out | apply IsS44.alloc | apply IsS44.drewN | apply IsS44.drew | apply IsS44.set_0 | apply IsS44.set_1 | apply IsS44.set_2 | apply IsS44.set_3 | apply IsS44.set_4) | exact HI423.out)⟩, ⟨by repeat (first | (with_reducible first | exact HB.out | apply below_alloc | apply pw_below_drewN | apply below_drew1 | refine below_set ?_ (IsS44.ge HI423.out)) | exact HB.out)⟩⟩
                · rw [if_neg c17] at H
                  exact absurd H (by simp)
              · rw [if_neg c16] at H
                have c16b0 : decide (x14_2 < (l2.length : Int)) = false := decide_eq_false c16
                clear c16
                replace H := Option.bind_eq_some_iff.mp H
                obtain ⟨⟨t437, t438, t439, t440, t441, t442⟩, A220, H⟩ := H
                replace H : (if t437 = true then ((delay_Delay_See.f t438 t439 t440 t441 t442 false x11_2).bind fun bt443 => (if (bt443.1 != (a1 != 0)) = true then (some false) else (watchkeeperlaw12_DelayFirst.l1 k2 a1 l3 t417 x11_2 x11_2 0 bt443.2.1 bt443.2.2.1 bt443.2.2.2.1 bt443.2.2.2.2.1 bt443.2.2.2.2.2))) else (if t417 = true then (some (decide ((wrap64 (x11_2 - 3)) < (wrap64 (a0))))) else (some false))) = some r := H
                have A22 := Aside0.mk A220
                clear A220
                by_cases c23 : t437 = true
                · subst c23
                  have H1 : ((delay_Delay_See.f t438 t439 t440 t441 t442 false x11_2).bind fun bt443 => (if (bt443.1 != (a1 != 0)) = true then (some false) else (watchkeeperlaw12_DelayFirst.l1 k2 a1 l3 t417 x11_2 x11_2 0 bt443.2.1 bt443.2.2.1 bt443.2.2.2.1 bt443.2.2.2.2.1 bt443.2.2.2.2.2))) = some r := by rw [if_pos rfl] at H; exact H
                  clear H
                  have H := H1
                  clear H1
                  replace H := Option.bind_eq_some_iff.mp H
                  obtain ⟨⟨t443, t444, t445, t446, t447, t448⟩, A240, H⟩ := H
                  replace H : (if (t443 != (a1 != 0)) = true then (some false) else (watchkeeperlaw12_DelayFirst.l1 k2 a1 l3 t417 x11_2 x11_2 0 t444 t445 t446 t447 t448)) = some r := H
                  have A24 := Aside0.mk A240
                  clear A240
                  by_cases c25 : (t443 != (a1 != 0)) = true
                  · rw [if_pos c25] at H
                    have c25b0 : (t443 != (a1 != 0)) = true := c25
                    (try (have c25b1 : decide (t443 = (a1 != 0)) = false := by simpa using c25))
                    (try (have c25b2 : (t443 == (a1 != 0)) = false := by simpa using c25))
                    (try (have c25b3 : ¬ (t443 = (a1 != 0)) := by simpa using c25))
                    clear c25
                    obtain rfl := Option.some.inj H
                    go_wp2_with (first | ((with_reducible refine gate_callee (f := 15) rfl ?_); refine goesL_ (some 71) rfl rfl Try.func15 (by kernel_rfl) rfl #[.pointer (some ⟨g423, 0, none⟩)] rfl (by (try simp only [List.map_toArray, List.map_cons, List.map_nil]); first | done | rfl | (simp only [List.length_drop, List.length_take]; rfl)) ?_; (with_reducible refine (delay_Delay_Value.calls g423 x424000_2 x424001_2 x424002_2 x424003_2 x424004_2 true t438 t439 t440 t441 t442 w _ ?side1 ?side2 A22.out).mono ?_); (case side1 => repeat (first | (with_reducible first | exact HI423.out | apply IsS44.alloc | apply IsS44.drewN | apply IsS44.drew | apply IsS44.set_0 | apply IsS44.set_1 | apply IsS44.set_2 | apply IsS44.set_3 | apply IsS44.set_4) | exact HI423.out)); (case side2 => repeat (first | (with_reducible first | exact HB.out | apply below_alloc | apply pw_below_drewN | apply below_drew1 | refine below_set ?_ (IsS44.ge HI423.out)) | exact HB.out)); rintro e w26 ⟨rfl, hi, hb, hk⟩; refine ⟨_, rfl, ?_⟩; have n0_ := Aside0.mk (hb); have n1_ := Aside0.mk (hi); clear HB; clear HI423; have HB := n0_; have HI423 := n1_; clear n0_ n1_; (try clear hb); (try clear hb2); (try clear hgn); (try clear hk); (try clear hi)) | ((with_reducible refine gate_callee (f := 11) rfl ?_); refine goesL_ (some 85) rfl rfl Try.func11 (by kernel_rfl) rfl #[.pointer (some ⟨g423, 0, none⟩), .bool false, .int .i64 x11_2] rfl (by (try simp only [List.map_toArray, List.map_cons, List.map_nil]); first | done | rfl | (simp only [List.length_drop, List.length_take]; rfl)) ?_; (with_reducible refine (delay_Delay_See.calls g423 t438 t439 t440 t441 t442 false x11_2 t443 t444 t445 t446 t447 t448 w _ ?side1 ?side2 A24.out).mono ?_); (case side1 => repeat (first | (with_reducible first | exact HI423.out | apply IsS44.alloc | apply IsS44.drewN | apply IsS44.drew | apply IsS44.set_0 | apply IsS44.set_1 | apply IsS44.set_2 | apply IsS44.set_3 | apply IsS44.set_4) | exact HI423.out)); (case side2 => repeat (first | (with_reducible first | exact HB.out | apply below_alloc | apply pw_below_drewN | apply below_drew1 | refine below_set ?_ (IsS44.ge HI423.out)) | exact HB.out)); rintro e w27 ⟨rfl, hi, hb, hk⟩; refine ⟨_, rfl, ?_⟩; have n0_ := Aside0.mk (hb); have n1_ := Aside0.mk (hi); clear HB; clear HI423; have HB := n0_; have HI423 := n1_; clear n0_ n1_; (try clear hb); (try clear hb2); (try clear hgn); (try clear hk); (try clear hi)))
                    go_ret
                    exact ⟨by first | rfl | (simp [errW_none, errW_some] <;> rfl) | (simp [*, errW_none, errW_some] <;> rfl), by repeat (first | (with_reducible first | exact HB.out | apply below_alloc | apply pw_below_drewN | apply below_drew1 | refine below_set ?_ (IsS44.ge HI423.out)) | exact HB.out)⟩
                  · rw [if_neg c25] at H
                    have c25b0 : (t443 != (a1 != 0)) = false := by simpa using c25
                    (try (have c25b1 : decide (t443 = (a1 != 0)) = true := by simpa using c25))
                    (try (have c25b2 : (t443 == (a1 != 0)) = true := by simpa using c25))
                    clear c25
                    have H' := Aside0.mk H
                    clear H
                    go_wp2_with (first | ((with_reducible refine gate_callee (f := 15) rfl ?_); refine goesL_ (some 71) rfl rfl Try.func15 (by kernel_rfl) rfl #[.pointer (some ⟨g423, 0, none⟩)] rfl (by (try simp only [List.map_toArray, List.map_cons, List.map_nil]); first | done | rfl | (simp only [List.length_drop, List.length_take]; rfl)) ?_; (with_reducible refine (delay_Delay_Value.calls g423 x424000_2 x424001_2 x424002_2 x424003_2 x424004_2 true t438 t439 t440 t441 t442 w _ ?side1 ?side2 A22.out).mono ?_); (case side1 => repeat (first | (with_reducible first | exact HI423.out | apply IsS44.alloc | apply IsS44.drewN | apply IsS44.drew | apply IsS44.set_0 | apply IsS44.set_1 | apply IsS44.set_2 | apply IsS44.set_3 | apply IsS44.set_4) | exact HI423.out)); (case side2 => repeat (first | (with_reducible first | exact HB.out | apply below_alloc | apply pw_below_drewN | apply below_drew1 | refine below_set ?_ (IsS44.ge HI423.out)) | exact HB.out)); rintro e w28 ⟨rfl, hi, hb, hk⟩; refine ⟨_, rfl, ?_⟩; have n0_ := Aside0.mk (hb); have n1_ := Aside0.mk (hi); clear HB; clear HI423; have HB := n0_; have HI423 := n1_; clear n0_ n1_; (try clear hb); (try clear hb2); (try clear hgn); (try clear hk); (try clear hi)) | ((with_reducible refine gate_callee (f := 11) rfl ?_); refine goesL_ (some 85) rfl rfl Try.func11 (by kernel_rfl) rfl #[.pointer (some ⟨g423, 0, none⟩), .bool false, .int .i64 x11_2] rfl (by (try simp only [List.map_toArray, List.map_cons, List.map_nil]); first | done | rfl | (simp only [List.length_drop, List.length_take]; rfl)) ?_; (with_reducible refine (delay_Delay_See.calls g423 t438 t439 t440 t441 t442 false x11_2 t443 t444 t445 t446 t447 t448 w _ ?side1 ?side2 A24.out).mono ?_); (case side1 => repeat (first | (with_reducible first | exact HI423.out | apply IsS44.alloc | apply IsS44.drewN | apply IsS44.drew | apply IsS44.set_0 | apply IsS44.set_1 | apply IsS44.set_2 | apply IsS44.set_3 | apply IsS44.set_4) | exact HI423.out)); (case side2 => repeat (first | (with_reducible first | exact HB.out | apply below_alloc | apply pw_below_drewN | apply below_drew1 | refine below_set ?_ (IsS44.ge HI423.out)) | exact HB.out)); rintro e w29 ⟨rfl, hi, hb, hk⟩; refine ⟨_, rfl, ?_⟩; have n0_ := Aside0.mk (hb); have n1_ := Aside0.mk (hi); clear HB; clear HI423; have HB := n0_; have HI423 := n1_; clear n0_ n1_; (try clear hb); (try clear hb2); (try clear hgn); (try clear hk); (try clear hi)))
                    go_loopg [11, 15] k2 (fun kq v11 v15 w' => ∃ (x11_3 : Int) (x15_3 : Int) (x424000_3 : Int) (x424001_3 : Int) (x424002_3 : Bool) (x424003_3 : Int) (x424004_3 : Int), v11 = .int .i64 x11_3 ∧ v15 = .int .i64 x15_3 ∧ Aside0 (watchkeeperlaw12_DelayFirst.l1 kq a1 l3 t417 x11_3 x11_2 x15_3 x424000_3 x424001_3 x424002_3 x424003_3 x424004_3 = some r) ∧ Aside0 (kq ≤ k2) ∧ Aside0 (IsS44 w w' g423 x424000_3 x424001_3 x424002_3 x424003_3 x424004_3) ∧ Aside0 (Below w.heap.size w w'))
                    case atStart => exact ⟨(x11_2), (0), (t444), (t445), (t446), (t447), (t448), (by first | rfl | (simp; done) | (simp [*]; done)), (by first | rfl | (simp; done) | (simp [*]; done)), H', ⟨Nat.le_refl _⟩, ⟨by repeat (first | (with_reducible first | exact HI423.out | apply IsS44.alloc | apply IsS44.drewN | apply IsS44.drew | apply IsS44.set_0 | apply IsS44.set_1 | apply IsS44.set_2 | apply IsS44.set_3 | apply IsS44.set_4) | exact HI423.out)⟩, ⟨by repeat (first | (with_reducible first | exact HB.out | apply below_alloc | apply pw_below_drewN | apply below_drew1 | refine below_set ?_ (IsS44.ge HI423.out)) | exact HB.out)⟩⟩
                    case round =>
                      clear H'
                      try clear c1
                      try clear c2
                      try clear p2
                      try clear c3
                      try clear p4
                      try clear q4
                      try clear hx4
                      try clear p6
                      try clear c7
                      try clear c8
                      try clear c9
                      try clear c10
                      try clear c10b0
                      try clear c10b1
                      try clear c11
                      try clear c13
                      try clear c13b0
                      try clear c13b1
                      try clear c13b2
                      try clear c15
                      try clear c16
                      try clear c16b0
                      try clear c17
                      try clear c17b0
                      try clear c19
                      try clear c19b0
                      try clear c19b1
                      try clear c19b2
                      try clear c23
                      try clear c25
                      try clear c25b0
                      try clear c25b1
                      try clear c25b2
                      try clear hx430_0
                      try clear p2
                      try clear p430
                      try clear p6
                      try clear q430
                      obtain ⟨x11_3, x15_3, x424000_3, x424001_3, x424002_3, x424003_3, x424004_3, rfl, rfl, HA, HK3, HI423, HB⟩ := hrel
                      cases gk with
                      | zero => exact absurd HA.out (by simp [watchkeeperlaw12_DelayFirst.l1])
                      | succ k3 =>
                        have H := HA.out
                        clear HA
                        simp only [watchkeeperlaw12_DelayFirst.l1] at H
                        by_cases c30 : x15_3 < (l3.length : Int)
                        · rw [if_pos c30] at H
                          have c30b0 : decide (x15_3 < (l3.length : Int)) = true := decide_eq_true c30
                          clear c30
                          by_cases c31 : 0 ≤ x15_3
                          · rw [if_pos c31] at H
                            have c31b0 : decide (0 ≤ x15_3) = true := decide_eq_true c31
                            clear c31
                            replace H := Option.bind_eq_some_iff.mp H
                            obtain ⟨⟨t450, t451, t452, t453, t454, t455⟩, A320, H⟩ := H
                            replace H : (if (t450 != (decide ((wrap64 ((wrap64 (x11_3 + (wrap64 (rd l3 x15_3)))) - x11_2)) < (wrap64 (a1))))) = true then (some false) else (watchkeeperlaw12_DelayFirst.l1 k3 a1 l3 t417 (wrap64 (x11_3 + (wrap64 (rd l3 x15_3)))) x11_2 (wrap64 (x15_3 + 1)) t451 t452 t453 t454 t455)) = some r := H
                            have A32 := Aside0.mk A320
                            clear A320
                            by_cases c33 : (t450 != (decide ((wrap64 ((wrap64 (x11_3 + (wrap64 (rd l3 x15_3)))) - x11_2)) < (wrap64 (a1))))) = true
                            · rw [if_pos c33] at H
                              have c33b0 : (t450 != (decide ((wrap64 ((wrap64 (x11_3 + (wrap64 (rd l3 x15_3)))) - x11_2)) < (wrap64 (a1))))) = true := c33
                              (try (have c33b1 : decide (t450 = (decide ((wrap64 ((wrap64 (x11_3 + (wrap64 (rd l3 x15_3)))) - x11_2)) < (wrap64 (a1))))) = false := by simpa using c33))
                              (try (have c33b2 : (t450 == (decide ((wrap64 ((wrap64 (x11_3 + (wrap64 (rd l3 x15_3)))) - x11_2)) < (wrap64 (a1))))) = false := by simpa using c33))
                              (try (have c33b3 : ¬ (t450 = (decide ((wrap64 ((wrap64 (x11_3 + (wrap64 (rd l3 x15_3)))) - x11_2)) < (wrap64 (a1))))) := by simpa using c33))
                              clear c33
                              obtain rfl := Option.some.inj H
                              have p449 : 0 ≤ (x15_3 : Int) := of_decide_eq_true (by first | (with_reducible assumption) | assumption)
                              have q449 : x15_3 < (l3.length : Int) := of_decide_eq_true (by first | (with_reducible assumption) | assumption)
                              obtain ⟨ad449, e449, hx449_0⟩ := Kd.at_int HR3.out x15_3 p449 q449
                              cases e449
                              replace hx449_0 := (HB.out.cell (World.block_lt_of_cell? w _ hx449_0)).trans hx449_0
                              replace p449 := eq_true p449
                              replace q449 := eq_true q449
                              go_wp2_with (first | ((with_reducible refine gate_callee (f := 11) rfl ?_); refine goesL_ (some 104) rfl rfl Try.func11 (by kernel_rfl) rfl #[.pointer (some ⟨g423, 0, none⟩), .bool false, .int .i64 (wrap64 (x11_3 + (wrap64 (rd l3 x15_3))))] rfl (by (try simp only [List.map_toArray, List.map_cons, List.map_nil]); first | done | rfl | (simp only [List.length_drop, List.length_take]; rfl)) ?_; (with_reducible refine (delay_Delay_See.calls g423 x424000_3 x424001_3 x424002_3 x424003_3 x424004_3 false (wrap64 (x11_3 + (wrap64 (rd l3 x15_3)))) t450 t451 t452 t453 t454 t455 w _ ?side1 ?side2 A32.out).mono ?_); (case side1 => repeat (first | (with_reducible first | exact HI423.out | apply IsS44.alloc | apply IsS44.drewN | apply IsS44.drew | apply IsS44.set_0 | apply IsS44.set_1 | apply IsS44.set_2 | apply IsS44.set_3 | apply IsS44.set_4) | exact HI423.out)); (case side2 => repeat (first | (with_reducible first | exact HB.out | apply below_alloc | apply pw_below_drewN | apply below_drew1 | refine below_set ?_ (IsS44.ge HI423.out)) | exact HB.out)); rintro e w34 ⟨rfl, hi, hb, hk⟩; refine ⟨_, rfl, ?_⟩; have n0_ := Aside0.mk (hb); have n1_ := Aside0.mk (hi); clear HB; clear HI423; have HB := n0_; have HI423 := n1_; clear n0_ n1_; (try clear hb); (try clear hb2); (try clear hgn); (try clear hk); (try clear hi)))
                              go_ret
                              exact ⟨by first | rfl | (simp [errW_none, errW_some] <;> rfl) | (simp [*, errW_none, errW_some] <;> rfl), by repeat (first | (with_reducible first | exact HB.out | apply below_alloc | apply pw_below_drewN | apply below_drew1 | refine below_set ?_ (IsS44.ge HI423.out)) | exact HB.out)⟩
                            · rw [if_neg c33] at H
                              have c33b0 : (t450 != (decide ((wrap64 ((wrap64 (x11_3 + (wrap64 (rd l3 x15_3)))) - x11_2)) < (wrap64 (a1))))) = false := by simpa using c33
                              (try (have c33b1 : decide (t450 = (decide ((wrap64 ((wrap64 (x11_3 + (wrap64 (rd l3 x15_3)))) - x11_2)) < (wrap64 (a1))))) = true := by simpa using c33))
                              (try (have c33b2 : (t450 == (decide ((wrap64 ((wrap64 (x11_3 + (wrap64 (rd l3 x15_3)))) - x11_2)) < (wrap64 (a1))))) = true := by simpa using c33))
                              clear c33
                              have H' := Aside0.mk H
                              clear H
                              have p449 : 0 ≤ (x15_3 : Int) := of_decide_eq_true (by first | (with_reducible assumption) | assumption)
                              have q449 : x15_3 < (l3.length : Int) := of_decide_eq_true (by first | (with_reducible assumption) | assumption)
                              obtain ⟨ad449, e449, hx449_0⟩ := Kd.at_int HR3.out x15_3 p449 q449
                              cases e449
                              replace hx449_0 := (HB.out.cell (World.block_lt_of_cell? w _ hx449_0)).trans hx449_0
                              replace p449 := eq_true p449
                              replace q449 := eq_true q449
                              go_wp2_with (first | ((with_reducible refine gate_callee (f := 11) rfl ?_); refine goesL_ (some 104) rfl rfl Try.func11 (by kernel_rfl) rfl #[.pointer (some ⟨g423, 0, none⟩), .bool false, .int .i64 (wrap64 (x11_3 + (wrap64 (rd l3 x15_3))))] rfl (by (try simp only [List.map_toArray, List.map_cons, List.map_nil]); first | done | rfl | (simp only [List.length_drop, List.length_take]; rfl)) ?_; (with_reducible refine (delay_Delay_See.calls g423 x424000_3 x424001_3 x424002_3 x424003_3 x424004_3 false (wrap64 (x11_3 + (wrap64 (rd l3 x15_3)))) t450 t451 t452 t453 t454 t455 w _ ?side1 ?side2 A32.out).mono ?_); (case side1 => repeat (first | (with_reducible first | exact HI423.out | apply IsS44.alloc | apply IsS44.drewN | apply IsS44.drew | apply IsS44.set_0 | apply IsS44.set_1 | apply IsS44.set_2 | apply IsS44.set_3 | apply IsS44.set_4) | exact HI423.out)); (case side2 => repeat (first | (with_reducible first | exact HB.out | apply below_alloc | apply pw_below_drewN | apply below_drew1 | refine below_set ?_ (IsS44.ge HI423.out)) | exact HB.out)); rintro e w35 ⟨rfl, hi, hb, hk⟩; refine ⟨_, rfl, ?_⟩; have n0_ := Aside0.mk (hb); have n1_ := Aside0.mk (hi); clear HB; clear HI423; have HB := n0_; have HI423 := n1_; clear n0_ n1_; (try clear hb); (try clear hb2); (try clear hgn); (try clear hk); (try clear hi)))
                              go_roundg k3
                              case measure => have := HJ6.out; have := HK2.out; have := HK3.out; omega
                              case rel => exact ⟨(wrap64 (x11_3 + (wrap64 (rd l3 x15_3)))), (wrap64 (x15_3 + 1)), (t451), (t452), (t453), (t454), (t455), (by first | rfl | (simp; done) | (simp [*]; done)), (by first | rfl | (simp; done) | (simp [*]; done)), H', ⟨by have := HJ6.out; have := HK2.out; have := HK3.out; omega⟩, ⟨by repeat (first | (with_reducible first | exact HI423.out | apply IsS44.alloc | apply IsS44.drewN | apply IsS44.drew | apply IsS44.set_0 | apply IsS44.set_1 | apply IsS44.set_2 | apply IsS44.set_3 | apply IsS44.set_4) | exact HI423.out)⟩, ⟨by repeat (first | (with_reducible first | exact HB.out | apply below_alloc | apply pw_below_drewN | apply below_drew1 | refine below_set ?_ (IsS44.ge HI423.out)) | exact HB.out)⟩⟩
                          · rw [if_neg c31] at H
                            exact absurd H (by simp)
                        · rw [if_neg c30] at H
                          have c30b0 : decide (x15_3 < (l3.length : Int)) = false := decide_eq_false c30
                          clear c30
                          obtain rfl := Option.some.inj H
                          go_wp2
                          go_ret
                          exact ⟨by first | rfl | (simp [errW_none, errW_some] <;> rfl) | (simp [*, errW_none, errW_some] <;> rfl), by repeat (first | (with_reducible first | exact HB.out | apply below_alloc | apply pw_below_drewN | apply below_drew1 | refine below_set ?_ (IsS44.ge HI423.out)) | exact HB.out)⟩
                · replace c23 := Bool.eq_false_iff.mpr c23
                  subst c23
                  have H1 : (if t417 = true then (some (decide ((wrap64 (x11_2 - 3)) < (wrap64 (a0))))) else (some false)) = some r := by rw [if_neg (show ¬ (false = true) by decide)] at H; exact H
                  clear H
                  have H := H1
                  clear H1
                  by_cases c36 : t417 = true
                  · subst c36
                    have H1 : (some (decide ((wrap64 (x11_2 - 3)) < (wrap64 (a0))))) = some r := by rw [if_pos rfl] at H; exact H
                    clear H
                    have H := H1
                    clear H1
                    obtain rfl := Option.some.inj H
                    go_wp2_with (first | ((with_reducible refine gate_callee (f := 15) rfl ?_); refine goesL_ (some 71) rfl rfl Try.func15 (by kernel_rfl) rfl #[.pointer (some ⟨g423, 0, none⟩)] rfl (by (try simp only [List.map_toArray, List.map_cons, List.map_nil]); first | done | rfl | (simp only [List.length_drop, List.length_take]; rfl)) ?_; (with_reducible refine (delay_Delay_Value.calls g423 x424000_2 x424001_2 x424002_2 x424003_2 x424004_2 false t438 t439 t440 t441 t442 w _ ?side1 ?side2 A22.out).mono ?_); (case side1 => repeat (first | (with_reducible first | exact HI423.out | apply IsS44.alloc | apply IsS44.drewN | apply IsS44.drew | apply IsS44.set_0 | apply IsS44.set_1 | apply IsS44.set_2 | apply IsS44.set_3 | apply IsS44.set_4) | exact HI423.out)); (case side2 => repeat (first | (with_reducible first | exact HB.out | apply below_alloc | apply pw_below_drewN | apply below_drew1 | refine below_set ?_ (IsS44.ge HI423.out)) | exact HB.out)); rintro e w37 ⟨rfl, hi, hb, hk⟩; refine ⟨_, rfl, ?_⟩; have n0_ := Aside0.mk (hb); have n1_ := Aside0.mk (hi); clear HB; clear HI423; have HB := n0_; have HI423 := n1_; clear n0_ n1_; (try clear hb); (try clear hb2); (try clear hgn); (try clear hk); (try clear hi)))
                    go_ret
                    exact ⟨by first | rfl | (simp [errW_none, errW_some] <;> rfl) | (simp [*, errW_none, errW_some] <;> rfl), by repeat (first | (with_reducible first | exact HB.out | apply below_alloc | apply pw_below_drewN | apply below_drew1 | refine below_set ?_ (IsS44.ge HI423.out)) | exact HB.out)⟩
                  · replace c36 := Bool.eq_false_iff.mpr c36
                    subst c36
                    have H1 : (some false) = some r := by rw [if_neg (show ¬ (false = true) by decide)] at H; exact H
                    clear H
                    have H := H1
                    clear H1
                    obtain rfl := Option.some.inj H
                    go_wp2_with (first | ((with_reducible refine gate_callee (f := 15) rfl ?_); refine goesL_ (some 71) rfl rfl Try.func15 (by kernel_rfl) rfl #[.pointer (some ⟨g423, 0, none⟩)] rfl (by (try simp only [List.map_toArray, List.map_cons, List.map_nil]); first | done | rfl | (simp only [List.length_drop, List.length_take]; rfl)) ?_; (with_reducible refine (delay_Delay_Value.calls g423 x424000_2 x424001_2 x424002_2 x424003_2 x424004_2 false t438 t439 t440 t441 t442 w _ ?side1 ?side2 A22.out).mono ?_); (case side1 => repeat (first | (with_reducible first | exact HI423.out | apply IsS44.alloc | apply IsS44.drewN | apply IsS44.drew | apply IsS44.set_0 | apply IsS44.set_1 | apply IsS44.set_2 | apply IsS44.set_3 | apply IsS44.set_4) | exact HI423.out)); (case side2 => repeat (first | (with_reducible first | exact HB.out | apply below_alloc | apply pw_below_drewN | apply below_drew1 | refine below_set ?_ (IsS44.ge HI423.out)) | exact HB.out)); rintro e w38 ⟨rfl, hi, hb, hk⟩; refine ⟨_, rfl, ?_⟩; have n0_ := Aside0.mk (hb); have n1_ := Aside0.mk (hi); clear HB; clear HI423; have HB := n0_; have HI423 := n1_; clear n0_ n1_; (try clear hb); (try clear hb2); (try clear hgn); (try clear hk); (try clear hi)))
                    go_ret
                    exact ⟨by first | rfl | (simp [errW_none, errW_some] <;> rfl) | (simp [*, errW_none, errW_some] <;> rfl), by repeat (first | (with_reducible first | exact HB.out | apply below_alloc | apply pw_below_drewN | apply below_drew1 | refine below_set ?_ (IsS44.ge HI423.out)) | exact HB.out)⟩

/-- THE ONE PURE STATEMENT of watchkeeperlaw12_DelayFirst: yours. -/
def watchkeeperlaw12_DelayFirst.Pure : Prop := ∀ (a0 : Int) (a1 : Int) (l2 : List Int) (l3 : List Int), (Lit.int .u8 a0).wf = true → (Lit.int .u8 a1).wf = true → l2.length ≤ maxLen → l2.length * 1 ≤ 140737488351232 → (∀ x ∈ l2, (Lit.int .u8 x).wf = true) → l3.length ≤ maxLen → l3.length * 1 ≤ 140737488351232 → (∀ x ∈ l3, (Lit.int .u8 x).wf = true) → ∃ k, watchkeeperlaw12_DelayFirst.f k a0 a1 l2 l3 = some true
theorem watchkeeperlaw12_DelayFirst.walk (P : watchkeeperlaw12_DelayFirst.Pure) (a0 : Int) (a1 : Int) (a2 : Option Addr) (len2 cap2 : Nat) (z2 : List Int) (a3 : Option Addr) (len3 cap3 : Nat) (z3 : List Int) (w : World) (w0 : (Lit.int .u8 a0).wf = true) (w1 : (Lit.int .u8 a1).wf = true) (w2 : (a2 = none ∧ len2 = 0 ∧ cap2 = 0 ∧ z2 = []) ∨ ∃ x, a2 = some x ∧ len2 ≤ cap2 ∧ cap2 ≤ maxLen ∧ z2.length = cap2 ∧ (∀ i, i < z2.length → w.cell? (x.add i) = some (.int .u8 (z2.getD i 0))) ∧ ∀ n ∈ z2, (Lit.int .u8 n).wf = true) (y2 : len2 * 1 ≤ 140737488351232) (w3 : (a3 = none ∧ len3 = 0 ∧ cap3 = 0 ∧ z3 = []) ∨ ∃ x, a3 = some x ∧ len3 ≤ cap3 ∧ cap3 ≤ maxLen ∧ z3.length = cap3 ∧ (∀ i, i < z3.length → w.cell? (x.add i) = some (.int .u8 (z3.getD i 0))) ∧ ∀ n ∈ z3, (Lit.int .u8 n).wf = true) (y3 : len3 * 1 ≤ 140737488351232) :
    Calls Try.prog 7 #[.int .u8 a0, .int .u8 a1, .slice a2 len2 cap2, .slice a3 len3 cap3] w fun e w' => e = .returned (.bool true) ∧ Below w.heap.size w w' := by
  obtain ⟨l2, rfl, hr2, hm2, hw2, hc2⟩ := ReadsInt.ofRowC w2
  obtain ⟨l3, rfl, hr3, hm3, hw3, hc3⟩ := ReadsInt.ofRowC w3
  obtain ⟨k, h⟩ := P a0 a1 l2 l3 w0 w1 hm2 y2 hw2 hm3 y3 hw3
  refine (watchkeeperlaw12_DelayFirst.calls k a0 a1 _ _ l2 _ _ l3 true w (Kd.C_of_reads (d := (0 : Int)) (h1 := fun _ => rfl) hr2) hc2 (Kd.C_of_reads (d := (0 : Int)) (h1 := fun _ => rfl) hr3) hc3 h).mono ?_
  rintro e w' ⟨rfl, hd⟩
  exact ⟨rfl, hd⟩

end Go.Proofs.Ytljabocijojceaa.QA
