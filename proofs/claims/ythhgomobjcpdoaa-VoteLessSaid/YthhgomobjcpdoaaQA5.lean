/- Contracts of the functions that the law reaches, and what each comes to as a plain function; laid by a program of mine over the printer. -/
import Derived.Test.YthhgomobjcpdoaaQA0
import Derived.Test.YthhgomobjcpdoaaQA1
namespace Go.Proofs.Ythhgomobjcpdoaa.QA
open Go.RowKit Go.Proofs.YthhgomobjcpdoaaW.PrintWords Go.Proofs.YthhgomobjcpdoaaW.PrintLast Go.Proofs.YthhgomobjcpdoaaW.PrintMore
attribute [local go_sem] max2_int min2_int max_two min_two max_three min_three max_four min_four   -- for this text's walks alone
set_option linter.unusedVariables false
set_option linter.unusedSimpArgs false

/-! ### watchkeeperlaw13_VoteAll: function 6 -/
mutual
def watchkeeperlaw13_VoteAll.l0 : Nat → Int → Int → Int → Bool → List (S29) → Int → Option (Bool)
  | 0, _, _, _, _, _, _ => none
  | k + 1, x0, x1, x2, x7, x8, x9 => if x9 < (wrap64 (x1)) then (if x8.length < 46912496118442 then (watchkeeperlaw13_VoteAll.l0 k x0 x1 x2 x7 (x8 ++ [(⟨((Int.tmod x9 2) == 0), ((Int.tmod x9 2) == 1), false⟩ : S29)]) (wrap64 (x9 + 1))) else (none)) else (watchkeeperlaw13_VoteAll.l1 k x0 x1 x2 x7 x8 0)
def watchkeeperlaw13_VoteAll.l1 : Nat → Int → Int → Int → Bool → List (S29) → Int → Option (Bool)
  | 0, _, _, _, _, _, _ => none
  | k + 1, x0, x1, x2, x7, x8, x10 => if x10 < (wrap64 (x2)) then (if x8.length < 46912496118442 then (watchkeeperlaw13_VoteAll.l1 k x0 x1 x2 x7 (x8 ++ [(⟨false, false, false⟩ : S29)]) (wrap64 (x10 + 1))) else (none)) else (if 0 ≤ (x8.length : Int) then (if ((x8.length : Int) : Int).toNat ≤ 93824992236885 then (watchkeeperlaw13_VoteAll.l2 k x0 x1 x7 x8 (List.replicate ((x8.length : Int) : Int).toNat z29) 0) else (none)) else (none))
def watchkeeperlaw13_VoteAll.l2 : Nat → Int → Int → Bool → List (S29) → List (S29) → Int → Option (Bool)
  | 0, _, _, _, _, _, _ => none
  | k + 1, x0, x1, x7, x8, x11, x12 => if x12 < (x8.length : Int) then (if 0 ≤ x12 then (if x12 < (x11.length : Int) then ((some (x11.set (x12 : Int).toNat (⟨(rd_T29 x8 x12).f0, (rd_T29 x8 x12).f1, (rd_T29 x8 x12).f2⟩ : S29) : List (S29))).bind fun y217 => (watchkeeperlaw13_VoteAll.l2 k x0 x1 x7 x8 (y217.set (x12 : Int).toNat (⟨(rd_T29 y217 x12).f0, (rd_T29 y217 x12).f1, true⟩ : S29)) (wrap64 (x12 + 1)))) else (none)) else (none)) else (if x7 = true then ((vote_Trips.f (wrap64 (x0)) x8).bind fun t219 => (if (x8.length : Int) > 0 then (if (t219 == (decide ((wrap64 (x1)) ≥ (mn (mx (wrap64 (x0)) 1) (x8.length : Int))))) = true then ((vote_Trips.f (wrap64 (x0)) x11).bind fun t220 => (if t220 = true then (some false) else ((vote_Trips.f (wrap64 (x0)) ([] : List (S29))).bind fun t221 => (if t221 = true then (some false) else ((vote_Need.f (wrap64 (x0)) x11).bind fun t222 => (if t222 = 0 then ((vote_Healthy.f (wrap64 (x0)) x8).bind fun t223 => ((vote_Trips.f (wrap64 (x0)) x8).bind fun t224 => (some (t223 == (!t224))))) else (some false))))))) else (some false)) else (if (t219 == false) = true then ((vote_Trips.f (wrap64 (x0)) x11).bind fun t225 => (if t225 = true then (some false) else ((vote_Trips.f (wrap64 (x0)) ([] : List (S29))).bind fun t226 => (if t226 = true then (some false) else ((vote_Need.f (wrap64 (x0)) x11).bind fun t227 => (if t227 = 0 then ((vote_Healthy.f (wrap64 (x0)) x8).bind fun t228 => ((vote_Trips.f (wrap64 (x0)) x8).bind fun t229 => (some (t228 == (!t229))))) else (some false))))))) else (some false)))) else (some false))
end
def watchkeeperlaw13_VoteAll.f (k : Nat) (a0 : Int) (a1 : Int) (a2 : Int) : Option (Bool) := (watchkeeperlaw13_head.f).bind fun t206 => (watchkeeperlaw13_VoteAll.l0 k a0 a1 a2 t206 ([] : List (S29)) 0)
theorem watchkeeperlaw13_VoteAll.mono_l : ∀ k, (∀ y0 y1 y2 y3 y4 y5, LeO (watchkeeperlaw13_VoteAll.l0 k y0 y1 y2 y3 y4 y5) (watchkeeperlaw13_VoteAll.l0 (k + 1) y0 y1 y2 y3 y4 y5)) ∧ (∀ y0 y1 y2 y3 y4 y5, LeO (watchkeeperlaw13_VoteAll.l1 k y0 y1 y2 y3 y4 y5) (watchkeeperlaw13_VoteAll.l1 (k + 1) y0 y1 y2 y3 y4 y5)) ∧ (∀ y0 y1 y2 y3 y4 y5, LeO (watchkeeperlaw13_VoteAll.l2 k y0 y1 y2 y3 y4 y5) (watchkeeperlaw13_VoteAll.l2 (k + 1) y0 y1 y2 y3 y4 y5))
  | 0 => ⟨fun _ _ _ _ _ _ r h => by simp [watchkeeperlaw13_VoteAll.l0] at h, fun _ _ _ _ _ _ r h => by simp [watchkeeperlaw13_VoteAll.l1] at h, fun _ _ _ _ _ _ r h => by simp [watchkeeperlaw13_VoteAll.l2] at h⟩
  | k + 1 => by
    obtain ⟨ih0, ih1, ih2⟩ := watchkeeperlaw13_VoteAll.mono_l k
    refine ⟨?_, ?_, ?_⟩
    · intro y0 y1 y2 y3 y4 y5
      unfold watchkeeperlaw13_VoteAll.l0
      repeat' first
      | (with_reducible exact ih0 _ _ _ _ _ _)
      | (with_reducible exact ih1 _ _ _ _ _ _)
      | (with_reducible exact ih2 _ _ _ _ _ _)
      | (with_reducible exact LeO.refl _)
      | (with_reducible exact LeO.none _)
      | (with_reducible refine LeO.ite ?_ ?_)
      | (with_reducible refine LeO.bind ?_ (fun _ => ?_))
      | exact ih0 _ _ _ _ _ _
      | exact ih1 _ _ _ _ _ _
      | exact ih2 _ _ _ _ _ _
      | exact LeO.none _
      | refine LeO.ite ?_ ?_
      | refine LeO.bind ?_ (fun _ => ?_)
    · intro y0 y1 y2 y3 y4 y5
      unfold watchkeeperlaw13_VoteAll.l1
      repeat' first
      | (with_reducible exact ih0 _ _ _ _ _ _)
      | (with_reducible exact ih1 _ _ _ _ _ _)
      | (with_reducible exact ih2 _ _ _ _ _ _)
      | (with_reducible exact LeO.refl _)
      | (with_reducible exact LeO.none _)
      | (with_reducible refine LeO.ite ?_ ?_)
      | (with_reducible refine LeO.bind ?_ (fun _ => ?_))
      | exact ih0 _ _ _ _ _ _
      | exact ih1 _ _ _ _ _ _
      | exact ih2 _ _ _ _ _ _
      | exact LeO.none _
      | refine LeO.ite ?_ ?_
      | refine LeO.bind ?_ (fun _ => ?_)
    · intro y0 y1 y2 y3 y4 y5
      unfold watchkeeperlaw13_VoteAll.l2
      repeat' first
      | (with_reducible exact ih0 _ _ _ _ _ _)
      | (with_reducible exact ih1 _ _ _ _ _ _)
      | (with_reducible exact ih2 _ _ _ _ _ _)
      | (with_reducible exact LeO.refl _)
      | (with_reducible exact LeO.none _)
      | (with_reducible refine LeO.ite ?_ ?_)
      | (with_reducible refine LeO.bind ?_ (fun _ => ?_))
      | exact ih0 _ _ _ _ _ _
      | exact ih1 _ _ _ _ _ _
      | exact ih2 _ _ _ _ _ _
      | exact LeO.none _
      | refine LeO.ite ?_ ?_
      | refine LeO.bind ?_ (fun _ => ?_)
theorem watchkeeperlaw13_VoteAll.mono : ∀ a0 a1 a2 k, LeO (watchkeeperlaw13_VoteAll.f k a0 a1 a2) (watchkeeperlaw13_VoteAll.f (k + 1) a0 a1 a2) := by
  intro a0 a1 a2 k
  obtain ⟨ih0, ih1, ih2⟩ := watchkeeperlaw13_VoteAll.mono_l k
  unfold watchkeeperlaw13_VoteAll.f
  repeat' first
      | (with_reducible exact ih0 _ _ _ _ _ _)
      | (with_reducible exact ih1 _ _ _ _ _ _)
      | (with_reducible exact ih2 _ _ _ _ _ _)
      | (with_reducible exact LeO.refl _)
      | (with_reducible exact LeO.none _)
      | (with_reducible refine LeO.ite ?_ ?_)
      | (with_reducible refine LeO.bind ?_ (fun _ => ?_))
      | exact ih0 _ _ _ _ _ _
      | exact ih1 _ _ _ _ _ _
      | exact ih2 _ _ _ _ _ _
      | exact LeO.none _
      | refine LeO.ite ?_ ?_
      | refine LeO.bind ?_ (fun _ => ?_)
set_option maxHeartbeats 8000000 in
set_option maxRecDepth 100000 in
theorem watchkeeperlaw13_VoteAll.calls (k : Nat) (a0 : Int) (a1 : Int) (a2 : Int) (r : Bool) (w : World) (h : watchkeeperlaw13_VoteAll.f k a0 a1 a2 = some r) :
    Calls Try.prog 6 #[.int .u8 a0, .int .u8 a1, .int .u8 a2] w fun e w' => e = .returned (.bool r) ∧ Below w.heap.size w w' := by
  have hu29 := Try.underlying29
  have HB := Aside0.mk (Below.refl w.heap.size w)
  have H : ((watchkeeperlaw13_head.f).bind fun t206 => (watchkeeperlaw13_VoteAll.l0 k a0 a1 a2 t206 ([] : List (S29)) 0)) = some r := h
  clear h
  replace H := Option.bind_eq_some_iff.mp H
  obtain ⟨t206, A40, H⟩ := H
  replace H : (watchkeeperlaw13_VoteAll.l0 k a0 a1 a2 t206 ([] : List (S29)) 0) = some r := H
  have A4 := Aside0.mk A40
  clear A40
  have H' := Aside0.mk H
  clear H
  go_enter Try.func6, Try.ntmps6
  go_wp2_with (first | ((with_reducible refine gate_callee (f := 8) rfl ?_); refine goesL_ (some 14) rfl rfl Try.func8 (by kernel_rfl) rfl #[] rfl (by (try simp only [List.map_toArray, List.map_cons, List.map_nil]); first | done | rfl | (simp only [List.length_drop, List.length_take]; rfl)) ?_; (with_reducible refine (watchkeeperlaw13_head.calls  t206 _ A4.out).mono ?_); rintro e w5 ⟨rfl, hb⟩; refine ⟨_, rfl, ?_⟩; have n0_ := Aside0.mk (below_step (by repeat (first | (with_reducible first | exact HB.out | apply below_alloc | apply pw_below_drewN | apply below_drew1) | exact HB.out)) hb); clear HB; have HB := n0_; clear n0_; (try clear hb); (try clear hb2); (try clear hgn); (try clear hk); (try clear hi)))
  go_loopg [8, 9] k (fun kq v8 v9 w' => ∃ (x8_1 : List (S29)) (x9_1 : Int), v9 = .int .i64 x9_1 ∧ Aside0 (watchkeeperlaw13_VoteAll.l0 kq a0 a1 a2 t206 x8_1 x9_1 = some r) ∧ Aside0 (kq ≤ k) ∧ Aside0 (Kd.R k29 29 w' w.heap.size (fun _ => True) v8 x8_1) ∧ Aside0 (Below w.heap.size w w'))
  case atStart => exact ⟨(([] : List (S29))), (0), (by first | rfl | (simp; done) | (simp [*]; done)), H', ⟨Nat.le_refl _⟩, ⟨by first | exact Kd.R_nil _ _ _ _ _ | exact Kd.N_nil _ _ _ _ _ | exact Kd.V_nil _ _ _ _ _ | exact Kd.Q_nil _ _ _ _ _ | exact Kd.S_nil _ _ _ _ _⟩, ⟨by repeat (first | (with_reducible first | exact HB.out | apply below_alloc | apply pw_below_drewN | apply below_drew1) | exact HB.out)⟩⟩
  case round =>
    clear H'
    try clear p2
    obtain ⟨x8_1, x9_1, rfl, HA, HK1, HO_8, HB⟩ := hrel
    cases gk with
    | zero => exact absurd HA.out (by simp [watchkeeperlaw13_VoteAll.l0])
    | succ k1 =>
      have H := HA.out
      clear HA
      simp only [watchkeeperlaw13_VoteAll.l0] at H
      by_cases c6 : x9_1 < (wrap64 (a1))
      · rw [if_pos c6] at H
        have c6b0 : decide (x9_1 < (wrap64 (a1))) = true := decide_eq_true c6
        clear c6
        by_cases c7 : x8_1.length < 46912496118442
        · rw [if_pos c7] at H
          have LMc7 := Aside0.mk c7
          clear c7
          obtain ⟨y207, hy207⟩ : ∃ y_ : List (S29), y_ = (x8_1 ++ [(⟨((Int.tmod x9_1 2) == 0), ((Int.tmod x9_1 2) == 1), false⟩ : S29)]) := ⟨_, rfl⟩
          replace H : (watchkeeperlaw13_VoteAll.l0 k1 a0 a1 a2 t206 y207 (wrap64 (x9_1 + 1))) = some r := by first | (rw [hy207]; with_reducible exact H) | (have H2_ := (Option.bind_some _ _).symm.trans H; rw [hy207]; with_reducible exact H2_) | (have H2_ := (Option.bind_some _ _).symm.trans H; with_reducible exact H2_) | with_reducible exact H | (rw [hy207]; exact H) | exact H
          have Ny207 := Aside0.mk hy207
          clear hy207
          have H' := Aside0.mk H
          clear H
          go_wp2_with (first | ((with_reducible refine gate_builtin (b := .append) (xs := #[.tmp 21, .tmp 29]) rfl ?_); (try (refine gate_guard (by rfl) ?_; dsimp only)); at_builtin; refine Kd.R_append k29 (w0 := w) w.heap.size rfl (.tmp 21) (.tmp 29) 22 29 (.agg #[(.bool false), (.bool false), (.bool false)]) 3 rfl Try.underlying22 info29 rfl (by decide) (by omega) u8 x8_1 (⟨((Int.tmod x9_1 2) == 0), ((Int.tmod x9_1 2) == 1), false⟩ : S29) [.bool ((Int.tmod x9_1 2) == 0), .bool ((Int.tmod x9_1 2) == 1), .bool false] (fun _ => True) (fun _ => False) rfl rfl ?aP (fun _ hk => hk.elim) ?aF ?aO ?aB ?aS ?aL ?_; (case aP => exact k29_mkM _ _ _ (⟨((Int.tmod x9_1 2) == 0), ((Int.tmod x9_1 2) == 1), false⟩ : S29)); (case aB => exact (by repeat (first | (with_reducible first | exact HB.out | apply below_alloc | apply pw_below_drewN | apply below_drew1) | exact HB.out))); (case aF => exact (fun _ _ => trivial)); (case aO => exact (by (with_reducible repeat (first | apply Kd.R_alloc | apply Kd.R_drewN | apply Kd.R_drew)); exact HO_8.out)); (case aS => exact (below_size (by repeat (first | (with_reducible first | exact HB.out | apply below_alloc | apply pw_below_drewN | apply below_drew1) | exact HB.out)))); (case aL => have := LMc7.out; omega); intro v208 w8 ho hb hg hat; rw [← Ny207.out] at ho; have n0_ := Aside0.mk (hb); have n1_ := Aside0.mk (ho); clear HB; clear HO_8; have HB := n0_; have HO209 := n1_; clear n0_ n1_; clear ho hb hg hat))
          go_roundg k1
          case measure => have := HK1.out; omega
          case rel => exact ⟨(y207), (wrap64 (x9_1 + 1)), (by first | rfl | (simp; done) | (simp [*]; done)), H', ⟨by have := HK1.out; omega⟩, ⟨by (with_reducible repeat (first | apply Kd.R_alloc | apply Kd.R_drewN | apply Kd.R_drew)); exact HO209.out⟩, ⟨by repeat (first | (with_reducible first | exact HB.out | apply below_alloc | apply pw_below_drewN | apply below_drew1) | exact HB.out)⟩⟩
        · rw [if_neg c7] at H
          exact absurd H (by simp)
      · rw [if_neg c6] at H
        have c6b0 : decide (x9_1 < (wrap64 (a1))) = false := decide_eq_false c6
        clear c6
        have H' := Aside0.mk H
        clear H
        go_wp2
        go_loopg [8, 10] k1 (fun kq v8 v10 w' => ∃ (x8_2 : List (S29)) (x10_2 : Int), v10 = .int .i64 x10_2 ∧ Aside0 (watchkeeperlaw13_VoteAll.l1 kq a0 a1 a2 t206 x8_2 x10_2 = some r) ∧ Aside0 (kq ≤ k1) ∧ Aside0 (Kd.R k29 29 w' w.heap.size (fun _ => True) v8 x8_2) ∧ Aside0 (Below w.heap.size w w'))
        case atStart => exact ⟨(x8_1), (0), (by first | rfl | (simp; done) | (simp [*]; done)), H', ⟨Nat.le_refl _⟩, ⟨by (with_reducible repeat (first | apply Kd.R_alloc | apply Kd.R_drewN | apply Kd.R_drew)); exact HO_8.out⟩, ⟨by repeat (first | (with_reducible first | exact HB.out | apply below_alloc | apply pw_below_drewN | apply below_drew1) | exact HB.out)⟩⟩
        case round =>
          clear H'
          try clear p2
          try clear c6
          try clear c6b0
          try clear p6
          try clear c7
          try clear c8
          try clear p2
          obtain ⟨x8_2, x10_2, rfl, HA, HK2, HO_8, HB⟩ := hrel
          cases gk with
          | zero => exact absurd HA.out (by simp [watchkeeperlaw13_VoteAll.l1])
          | succ k2 =>
            have H := HA.out
            clear HA
            simp only [watchkeeperlaw13_VoteAll.l1] at H
            by_cases c9 : x10_2 < (wrap64 (a2))
            · rw [if_pos c9] at H
              have c9b0 : decide (x10_2 < (wrap64 (a2))) = true := decide_eq_true c9
              clear c9
              by_cases c10 : x8_2.length < 46912496118442
              · rw [if_pos c10] at H
                have LMc10 := Aside0.mk c10
                clear c10
                obtain ⟨y210, hy210⟩ : ∃ y_ : List (S29), y_ = (x8_2 ++ [(⟨false, false, false⟩ : S29)]) := ⟨_, rfl⟩
                replace H : (watchkeeperlaw13_VoteAll.l1 k2 a0 a1 a2 t206 y210 (wrap64 (x10_2 + 1))) = some r := by first | (rw [hy210]; with_reducible exact H) | (have H2_ := (Option.bind_some _ _).symm.trans H; rw [hy210]; with_reducible exact H2_) | (have H2_ := (Option.bind_some _ _).symm.trans H; with_reducible exact H2_) | with_reducible exact H | (rw [hy210]; exact H) | exact H
                have Ny210 := Aside0.mk hy210
                clear hy210
                have H' := Aside0.mk H
                clear H
                go_wp2_with (first | ((with_reducible refine gate_builtin (b := .append) (xs := #[.tmp 37, .tmp 39]) rfl ?_); (try (refine gate_guard (by rfl) ?_; dsimp only)); at_builtin; refine Kd.R_append k29 (w0 := w) w.heap.size rfl (.tmp 37) (.tmp 39) 22 29 (.agg #[(.bool false), (.bool false), (.bool false)]) 3 rfl Try.underlying22 info29 rfl (by decide) (by omega) u8 x8_2 (⟨false, false, false⟩ : S29) [.bool false, .bool false, .bool false] (fun _ => True) (fun _ => False) rfl rfl ?aP (fun _ hk => hk.elim) ?aF ?aO ?aB ?aS ?aL ?_; (case aP => exact k29_mkM _ _ _ (⟨false, false, false⟩ : S29)); (case aB => exact (by repeat (first | (with_reducible first | exact HB.out | apply below_alloc | apply pw_below_drewN | apply below_drew1) | exact HB.out))); (case aF => exact (fun _ _ => trivial)); (case aO => exact (by (with_reducible repeat (first | apply Kd.R_alloc | apply Kd.R_drewN | apply Kd.R_drew)); exact HO_8.out)); (case aS => exact (below_size (by repeat (first | (with_reducible first | exact HB.out | apply below_alloc | apply pw_below_drewN | apply below_drew1) | exact HB.out)))); (case aL => have := LMc10.out; omega); intro v211 w11 ho hb hg hat; rw [← Ny210.out] at ho; have n0_ := Aside0.mk (hb); have n1_ := Aside0.mk (ho); clear HB; clear HO_8; have HB := n0_; have HO212 := n1_; clear n0_ n1_; clear ho hb hg hat))
                go_roundg k2
                case measure => have := HK1.out; have := HK2.out; omega
                case rel => exact ⟨(y210), (wrap64 (x10_2 + 1)), (by first | rfl | (simp; done) | (simp [*]; done)), H', ⟨by have := HK1.out; have := HK2.out; omega⟩, ⟨by (with_reducible repeat (first | apply Kd.R_alloc | apply Kd.R_drewN | apply Kd.R_drew)); exact HO212.out⟩, ⟨by repeat (first | (with_reducible first | exact HB.out | apply below_alloc | apply pw_below_drewN | apply below_drew1) | exact HB.out)⟩⟩
              · rw [if_neg c10] at H
                exact absurd H (by simp)
            · rw [if_neg c9] at H
              have c9b0 : decide (x10_2 < (wrap64 (a2))) = false := decide_eq_false c9
              clear c9
              by_cases c12 : 0 ≤ (x8_2.length : Int)
              · rw [if_pos c12] at H
                have c12b0 := eq_true c12
                have c12b1 : decide (0 ≤ (x8_2.length : Int)) = true := decide_eq_true c12
                clear c12
                by_cases c13 : ((x8_2.length : Int) : Int).toNat ≤ 93824992236885
                · rw [if_pos c13] at H
                  have c13b0 := eq_true c13
                  have c13b1 : decide (((x8_2.length : Int) : Int).toNat ≤ 93824992236885) = true := decide_eq_true c13
                  clear c13
                  obtain ⟨y213, hy213⟩ : ∃ y_ : List (S29), y_ = (List.replicate ((x8_2.length : Int) : Int).toNat z29) := ⟨_, rfl⟩
                  replace H : (watchkeeperlaw13_VoteAll.l2 k2 a0 a1 t206 x8_2 y213 0) = some r := by first | (rw [hy213]; with_reducible exact H) | (have H2_ := (Option.bind_some _ _).symm.trans H; rw [hy213]; with_reducible exact H2_) | (have H2_ := (Option.bind_some _ _).symm.trans H; with_reducible exact H2_) | with_reducible exact H | (rw [hy213]; exact H) | exact H
                  have Ny213 := Aside0.mk hy213
                  clear hy213
                  have H' := Aside0.mk H
                  clear H
                  obtain ⟨Ao14, co14, eo14⟩ := Kd.R_slice HO_8.out
                  subst eo14
                  go_wp2_with (first | ((with_reducible refine gate_dst (N := 43) rfl ?_); (try (refine gate_guard (by rfl) ?_; dsimp only)); refine Kd.R_make k29 _ 29 rfl (N := 43) rfl 22 _ _ rfl (x8_2.length : Int) rfl rfl Try.underlying22 (.agg #[(.bool false), (.bool false), (.bool false)]) 3 info29 rfl (by decide) (by omega) z29 (ok := fun _ => True) (okp := fun _ => True) (k29_mkM _ _ _ z29 ) (fun _ hk => hk) trivial (of_decide_eq_true (by first | (with_reducible assumption) | assumption)) (Nat.le_trans (Nat.mul_le_mul_right _ (of_decide_eq_true (by first | (with_reducible assumption) | assumption) : (x8_2.length : Int).toNat ≤ 93824992236885)) (by omega)) (Below.refl _ _) (Nat.le_refl _) ?_; intro v214 w15 ho16 hb hg_ hnew_; clear hg_ hnew_; (first | rw [← Ny213.out] at ho16 | (simp only [Int.reduceToNat] at ho16; rw [← Ny213.out] at ho16)); have n0_ := Aside0.mk (Kd.R_elder' (by (with_reducible repeat (first | apply Kd.R_alloc | apply Kd.R_drewN | apply Kd.R_drew)); exact HO_8.out) (Kd.R_base ho16) hb); have n1_ := Aside0.mk (Kd.R_lower (Kd.R_new' ho16 (Kd.R_lt (by (with_reducible repeat (first | apply Kd.R_alloc | apply Kd.R_drewN | apply Kd.R_drew)); exact HO_8.out))) (below_size (by repeat (first | (with_reducible first | exact HB.out | apply below_alloc | apply pw_below_drewN | apply below_drew1) | exact HB.out)))); have n2_ := Aside0.mk (below_step (by repeat (first | (with_reducible first | exact HB.out | apply below_alloc | apply pw_below_drewN | apply below_drew1) | exact HB.out)) hb); clear HO_8; clear HB; have HO_8 := n0_; have HO215 := n1_; have HB := n2_; clear n0_ n1_ n2_; clear hb ho16))
                  go_loopg [12] k2 (fun kq v12 w' => ∃ (x11_3 : List (S29)) (x12_3 : Int), v12 = .int .i64 x12_3 ∧ Aside0 (watchkeeperlaw13_VoteAll.l2 kq a0 a1 t206 x8_2 x11_3 x12_3 = some r) ∧ Aside0 (kq ≤ k2) ∧ Aside0 (Kd.R k29 29 w' w.heap.size (fun k_ => some k_ ≠ (v214 : Value).ownBlock) (.slice Ao14 x8_2.length co14) x8_2) ∧ Aside0 (Kd.R k29 29 w' w.heap.size (fun k_ => some k_ ≠ ((.slice Ao14 x8_2.length co14) : Value).ownBlock) v214 x11_3) ∧ Aside0 (Below w.heap.size w w'))
                  case atStart => exact ⟨(y213), (0), (by first | rfl | (simp; done) | (simp [*]; done)), H', ⟨Nat.le_refl _⟩, ⟨by (with_reducible repeat (first | apply Kd.R_alloc | apply Kd.R_drewN | apply Kd.R_drew)); exact Kd.R_mono HO_8.out (fun _ hk => hk.2)⟩, ⟨by (with_reducible repeat (first | apply Kd.R_alloc | apply Kd.R_drewN | apply Kd.R_drew)); exact Kd.R_mono HO215.out (fun _ hk => hk.2)⟩, ⟨by repeat (first | (with_reducible first | exact HB.out | apply below_alloc | apply pw_below_drewN | apply below_drew1) | exact HB.out)⟩⟩
                  case round =>
                    clear H'
                    try clear c1
                    try clear p2
                    try clear c6
                    try clear c6b0
                    try clear p6
                    try clear c7
                    try clear c8
                    try clear c9
                    try clear c9b0
                    try clear c10
                    try clear c12
                    try clear c12b0
                    try clear c12b1
                    try clear c13
                    try clear c13b0
                    try clear c13b1
                    try clear p2
                    try clear p6
                    obtain ⟨x11_3, x12_3, rfl, HA, HK3, HO_8, HO_11, HB⟩ := hrel
                    cases gk with
                    | zero => exact absurd HA.out (by simp [watchkeeperlaw13_VoteAll.l2])
                    | succ k3 =>
                      have H := HA.out
                      clear HA
                      simp only [watchkeeperlaw13_VoteAll.l2] at H
                      by_cases c17 : x12_3 < (x8_2.length : Int)
                      · rw [if_pos c17] at H
                        have c17b0 : decide (x12_3 < (x8_2.length : Int)) = true := decide_eq_true c17
                        clear c17
                        by_cases c18 : 0 ≤ x12_3
                        · rw [if_pos c18] at H
                          have c18b0 : decide (0 ≤ x12_3) = true := decide_eq_true c18
                          clear c18
                          by_cases c19 : x12_3 < (x11_3.length : Int)
                          · rw [if_pos c19] at H
                            have c19b0 : decide (x12_3 < (x11_3.length : Int)) = true := decide_eq_true c19
                            clear c19
                            obtain ⟨y217, hy217⟩ : ∃ y_ : List (S29), y_ = (x11_3.set (x12_3 : Int).toNat (⟨(rd_T29 x8_2 x12_3).f0, (rd_T29 x8_2 x12_3).f1, (rd_T29 x8_2 x12_3).f2⟩ : S29)) := ⟨_, rfl⟩
                            replace H : (watchkeeperlaw13_VoteAll.l2 k3 a0 a1 t206 x8_2 (y217.set (x12_3 : Int).toNat (⟨(rd_T29 y217 x12_3).f0, (rd_T29 y217 x12_3).f1, true⟩ : S29)) (wrap64 (x12_3 + 1))) = some r := by first | (rw [hy217]; with_reducible exact H) | (have H2_ := (Option.bind_some _ _).symm.trans H; rw [hy217]; with_reducible exact H2_) | (have H2_ := (Option.bind_some _ _).symm.trans H; with_reducible exact H2_) | with_reducible exact H | (rw [hy217]; exact H) | exact H
                            have Ny217 := Aside0.mk hy217
                            clear hy217
                            obtain ⟨y218, hy218⟩ : ∃ y_ : List (S29), y_ = (y217.set (x12_3 : Int).toNat (⟨(rd_T29 y217 x12_3).f0, (rd_T29 y217 x12_3).f1, true⟩ : S29)) := ⟨_, rfl⟩
                            replace H : (watchkeeperlaw13_VoteAll.l2 k3 a0 a1 t206 x8_2 y218 (wrap64 (x12_3 + 1))) = some r := by first | (rw [hy218]; with_reducible exact H) | (have H2_ := (Option.bind_some _ _).symm.trans H; rw [hy218]; with_reducible exact H2_) | (have H2_ := (Option.bind_some _ _).symm.trans H; with_reducible exact H2_) | with_reducible exact H | (rw [hy218]; exact H) | exact H
                            have Ny218 := Aside0.mk hy218
                            clear hy218
                            have H' := Aside0.mk H
                            clear H
                            have p216 : 0 ≤ (x12_3 : Int) := of_decide_eq_true (by first | (with_reducible assumption) | assumption)
                            have q216 : x12_3 < (x8_2.length : Int) := of_decide_eq_true (by first | (with_reducible assumption) | assumption)
                            obtain ⟨ad216, e216, hx216_0, hx216_1, hx216_2⟩ := at_T29 (Kd.R_reads' HO_8.out).2.2 x12_3 p216 q216
                            cases e216
                            replace p216 := eq_true p216
                            replace q216 := eq_true q216
                            have p20 : 0 ≤ (x12_3 : Int) := of_decide_eq_true (by first | (with_reducible assumption) | assumption)
                            have q20 : (x12_3 : Int) < ((x11_3.length : Int) : Int) := of_decide_eq_true (by first | (with_reducible assumption) | assumption)
                            obtain ⟨go20, co20, eo20, gb20, gl20, cl20, HG20⟩ := Kd.R_form HO_11.out (by omega)
                            (first | cases eo20 | (injection eo20 with ea_ en_ ec_; (first | subst ea_ | (injection ea_ with ea_; subst ea_)); subst ec_; clear en_))
                            have GB20 := Aside0.mk gb20
                            have GG20 := Aside0.mk HG20
                            clear gb20 gl20 HG20
                            obtain ⟨ce20, hcl20, hM20, hcc20, hfr20⟩ := Kd.R_elem HO_11.out z29 (x12_3 : Int) p20 q20
                            obtain rfl := k29_openM hM20
                            have hx20_0 : wr.cell? ⟨go20, (x12_3 : Int).toNat * 3, none⟩ = some (.bool ((rd_T29 x11_3 x12_3).f0)) := hcc20 0 _ rfl
                            have hx20_1 : wr.cell? ⟨go20, (x12_3 : Int).toNat * 3 + 1, none⟩ = some (.bool ((rd_T29 x11_3 x12_3).f1)) := hcc20 1 _ rfl
                            have hx20_2 : wr.cell? ⟨go20, (x12_3 : Int).toNat * 3 + 2, none⟩ = some (.bool ((rd_T29 x11_3 x12_3).f2)) := hcc20 2 _ rfl
                            have hf20_0 : wr.frozen? ⟨go20, (x12_3 : Int).toNat * 3, none⟩ = false := hfr20 0
                            have hf20_1 : wr.frozen? ⟨go20, (x12_3 : Int).toNat * 3 + 1, none⟩ = false := hfr20 1
                            have hf20_2 : wr.frozen? ⟨go20, (x12_3 : Int).toNat * 3 + 2, none⟩ = false := hfr20 2
                            clear hcl20 hcc20 hfr20 hM20
                            replace p20 := eq_true p20
                            replace q20 := eq_true q20
                            have HX22 := Aside0.mk (show Kd.R k29 29 wr w.heap.size (fun k_ => some k_ ≠ (.slice (some ad216) x8_2.length co14 : Value).ownBlock) (.slice (some ⟨go20, 0, none⟩) x11_3.length co20) x11_3 from (by (with_reducible repeat (first | apply Kd.R_alloc | apply Kd.R_drewN | apply Kd.R_drew)); exact HO_11.out))
                            obtain ⟨ce22, hcl22, hM22, hcc22, hfr22⟩ := Kd.R_elem HX22.out z29 (x12_3 : Int) (of_decide_eq_true (by first | (with_reducible assumption) | assumption)) (by have h_ : (x12_3 : Int) < ((x11_3.length : Int) : Int) := of_decide_eq_true (by first | (with_reducible assumption) | assumption); first | exact h_ | (have e_ := (Kd.R_reads' HO_11.out).1; omega) | simpa using h_)
                            obtain rfl := k29_openM hM22
                            have HP22 := Kd.R_seg HX22.out (x12_3 : Int) (of_decide_eq_true (by first | (with_reducible assumption) | assumption)) (by have h_ : (x12_3 : Int) < ((x11_3.length : Int) : Int) := of_decide_eq_true (by first | (with_reducible assumption) | assumption); first | exact h_ | (have e_ := (Kd.R_reads' HO_11.out).1; omega) | simpa using h_) (seg := [.bool ((rd_T29 x8_2 x12_3).f0), .bool ((rd_T29 x8_2 x12_3).f1), .bool ((rd_T29 x8_2 x12_3).f2)]) (j := 0) hcl22 hcc22 (show 3 ≤ 3 from by decide) (x' := (⟨(rd_T29 x8_2 x12_3).f0, (rd_T29 x8_2 x12_3).f1, (rd_T29 x8_2 x12_3).f2⟩ : S29)) (k29_mkM _ _ _ (⟨(rd_T29 x8_2 x12_3).f0, (rd_T29 x8_2 x12_3).f1, (rd_T29 x8_2 x12_3).f2⟩ : S29) ) (fun _ hk => hk)
                            have hx22_0 := hcc22 0 _ rfl
                            (try simp only [show (k29).sz = 3 from rfl, Nat.mul_one, Nat.add_zero] at hx22_0)
                            have hf22_0 := hfr22 0
                            (try simp only [show (k29).sz = 3 from rfl, Nat.mul_one, Nat.add_zero] at hf22_0)
                            have hx22_1 := hcc22 1 _ rfl
                            (try simp only [show (k29).sz = 3 from rfl, Nat.mul_one, Nat.add_zero] at hx22_1)
                            have hf22_1 := hfr22 1
                            (try simp only [show (k29).sz = 3 from rfl, Nat.mul_one, Nat.add_zero] at hf22_1)
                            have hx22_2 := hcc22 2 _ rfl
                            (try simp only [show (k29).sz = 3 from rfl, Nat.mul_one, Nat.add_zero] at hx22_2)
                            have hf22_2 := hfr22 2
                            (try simp only [show (k29).sz = 3 from rfl, Nat.mul_one, Nat.add_zero] at hf22_2)
                            clear hcl22 hcc22 hfr22 hM22
                            go_wp2_with (first | ((with_reducible refine gate_store (t := 29) (p := 56) rfl ?_); refine store_event (t := 29) (p := 56) (v := ?vo_w23) (w1 := (((wr.setCell ⟨go20, (x12_3 : Int).toNat * 3, none⟩ (.bool ((rd_T29 x8_2 x12_3).f0))).setCell ⟨go20, (x12_3 : Int).toNat * 3 + 1, none⟩ (.bool ((rd_T29 x8_2 x12_3).f1))).setCell ⟨go20, (x12_3 : Int).toNat * 3 + 2, none⟩ (.bool ((rd_T29 x8_2 x12_3).f2)))) ?hg ?ho ?hn ?hr ?_; (case ho => rfl); (case hg => rfl); (case hn => rfl); (case hr => first | (go_simp; done) | (go_simp; rfl)); intro w23 hw; have hg : wr.grownBy w23 (some go20) := (by rw [hw]; exact HP22.2); have hp_ : Kd.R k29 29 w23 w.heap.size (fun k_ => some k_ ≠ (.slice (some ad216) x8_2.length co14 : Value).ownBlock) (.slice (some ⟨go20, 0, none⟩) x11_3.length co20) y217 := (by rw [hw, Ny217.out]; exact HP22.1); clear HP22; have n0_ := Aside0.mk (Kd.R_after (v := (.slice (some ⟨go20, 0, none⟩) x11_3.length co20)) (v1 := (.slice (some ⟨go20, 0, none⟩) x11_3.length co20)) (ok := (fun _ => True)) (by (with_reducible repeat (first | apply Kd.R_alloc | apply Kd.R_drewN | apply Kd.R_drew)); exact Kd.R_mono HO_8.out (fun _ hk => ⟨trivial, hk⟩)) hg (.inl rfl)); have n1_ := Aside0.mk (hp_); have n2_ := Aside0.mk ((by rw [hw]; exact below_set (below_set (below_set (HB.out) GB20.out) GB20.out) GB20.out : Below w.heap.size w w23)); clear HO_8; clear HO_11; clear HB; have HO_8 := n0_; have HO_11 := n1_; have HB := n2_; clear n0_ n1_ n2_; clear hg hw hp_; have p21 : 0 ≤ (x12_3 : Int) := of_decide_eq_true (by first | (with_reducible assumption) | assumption); have q21 : (x12_3 : Int) < ((x11_3.length : Int) : Int) := of_decide_eq_true (by first | (with_reducible assumption) | assumption); obtain ⟨ce21, hcl21, hM21, hcc21, hfr21⟩ := Kd.R_elem HO_11.out z29 (x12_3 : Int) p21 q21; obtain rfl := k29_openM hM21; have hx21_0 : w23.cell? ⟨go20, (x12_3 : Int).toNat * 3, none⟩ = some (.bool ((rd_T29 y217 x12_3).f0)) := hcc21 0 _ rfl; have hx21_1 : w23.cell? ⟨go20, (x12_3 : Int).toNat * 3 + 1, none⟩ = some (.bool ((rd_T29 y217 x12_3).f1)) := hcc21 1 _ rfl; have hx21_2 : w23.cell? ⟨go20, (x12_3 : Int).toNat * 3 + 2, none⟩ = some (.bool ((rd_T29 y217 x12_3).f2)) := hcc21 2 _ rfl; have hf21_0 : w23.frozen? ⟨go20, (x12_3 : Int).toNat * 3, none⟩ = false := hfr21 0; have hf21_1 : w23.frozen? ⟨go20, (x12_3 : Int).toNat * 3 + 1, none⟩ = false := hfr21 1; have hf21_2 : w23.frozen? ⟨go20, (x12_3 : Int).toNat * 3 + 2, none⟩ = false := hfr21 2; clear hcl21 hcc21 hfr21 hM21; replace p21 := eq_true p21; replace q21 := eq_true q21; have HX24 := Aside0.mk (show Kd.R k29 29 w23 w.heap.size (fun k_ => some k_ ≠ (.slice (some ad216) x8_2.length co14 : Value).ownBlock) (.slice (some ⟨go20, 0, none⟩) x11_3.length co20) y217 from (by (with_reducible repeat (first | apply Kd.R_alloc | apply Kd.R_drewN | apply Kd.R_drew)); exact HO_11.out)); obtain ⟨ce24, hcl24, hM24, hcc24, hfr24⟩ := Kd.R_elem HX24.out z29 (x12_3 : Int) (of_decide_eq_true (by first | (with_reducible assumption) | assumption)) (by have h_ : (x12_3 : Int) < ((x11_3.length : Int) : Int) := of_decide_eq_true (by first | (with_reducible assumption) | assumption); first | exact h_ | (have e_ := (Kd.R_reads' HO_11.out).1; omega) | simpa using h_); obtain rfl := k29_openM hM24; have HP24 := Kd.R_seg HX24.out (x12_3 : Int) (of_decide_eq_true (by first | (with_reducible assumption) | assumption)) (by have h_ : (x12_3 : Int) < ((x11_3.length : Int) : Int) := of_decide_eq_true (by first | (with_reducible assumption) | assumption); first | exact h_ | (have e_ := (Kd.R_reads' HO_11.out).1; omega) | simpa using h_) (seg := [.bool true]) (j := 2) hcl24 hcc24 (show 3 ≤ 3 from by decide) (x' := (⟨(rd_T29 y217 x12_3).f0, (rd_T29 y217 x12_3).f1, true⟩ : S29)) (k29_mkM _ _ _ (⟨(rd_T29 y217 x12_3).f0, (rd_T29 y217 x12_3).f1, true⟩ : S29) ) (fun _ hk => hk); have hx24_2 := hcc24 2 _ rfl; (try simp only [show (k29).sz = 3 from rfl, Nat.mul_one, Nat.add_zero] at hx24_2); have hf24_2 := hfr24 2; (try simp only [show (k29).sz = 3 from rfl, Nat.mul_one, Nat.add_zero] at hf24_2); clear hcl24 hcc24 hfr24 hM24) | ((with_reducible refine gate_store (t := 4) (p := 60) rfl ?_); refine store_event (t := 4) (p := 60) (v := ?vo_w25) (w1 := (w23.setCell ⟨go20, (x12_3 : Int).toNat * 3 + 2, none⟩ (.bool true))) ?hg ?ho ?hn ?hr ?_; (case ho => rfl); (case hg => rfl); (case hn => rfl); (case hr => first | (go_simp; done) | (go_simp; rfl)); intro w25 hw; have hg : w23.grownBy w25 (some go20) := (by rw [hw]; exact HP24.2); have hp_ : Kd.R k29 29 w25 w.heap.size (fun k_ => some k_ ≠ (.slice (some ad216) x8_2.length co14 : Value).ownBlock) (.slice (some ⟨go20, 0, none⟩) x11_3.length co20) y218 := (by rw [hw, Ny218.out]; exact HP24.1); clear HP24; have n0_ := Aside0.mk (Kd.R_after (v := (.slice (some ⟨go20, 0, none⟩) x11_3.length co20)) (v1 := (.slice (some ⟨go20, 0, none⟩) x11_3.length co20)) (ok := (fun _ => True)) (by (with_reducible repeat (first | apply Kd.R_alloc | apply Kd.R_drewN | apply Kd.R_drew)); exact HO_8.out) hg (.inl rfl)); have n1_ := Aside0.mk (hp_); have n2_ := Aside0.mk ((by rw [hw]; exact below_set (HB.out) GB20.out : Below w.heap.size w w25)); clear HO_8; clear HO_11; clear HB; have HO_8 := n0_; have HO_11 := n1_; have HB := n2_; clear n0_ n1_ n2_; clear hg hw hp_))
                            go_roundg k3
                            case measure => have := HK1.out; have := HK2.out; have := HK3.out; omega
                            case rel => exact ⟨(y218), (wrap64 (x12_3 + 1)), (by first | rfl | (simp; done) | (simp [*]; done)), H', ⟨by have := HK1.out; have := HK2.out; have := HK3.out; omega⟩, ⟨by (with_reducible repeat (first | apply Kd.R_alloc | apply Kd.R_drewN | apply Kd.R_drew)); exact Kd.R_mono HO_8.out (fun _ hk => hk.2)⟩, ⟨by (with_reducible repeat (first | apply Kd.R_alloc | apply Kd.R_drewN | apply Kd.R_drew)); exact HO_11.out⟩, ⟨by repeat (first | (with_reducible first | exact HB.out | apply below_alloc | apply pw_below_drewN | apply below_drew1) | exact HB.out)⟩⟩
                          · rw [if_neg c19] at H
                            exact absurd H (by simp)
                        · rw [if_neg c18] at H
                          exact absurd H (by simp)
                      · rw [if_neg c17] at H
                        have c17b0 : decide (x12_3 < (x8_2.length : Int)) = false := decide_eq_false c17
                        clear c17
                        obtain ⟨ji26, hji26⟩ : ∃ j_ : Int, (mx (wrap64 (a0)) 1) = j_ := ⟨_, rfl⟩
                        replace H : (if t206 = true then ((vote_Trips.f (wrap64 (a0)) x8_2).bind fun t219 => (if (x8_2.length : Int) > 0 then (if (t219 == (decide ((wrap64 (a1)) ≥ (mn (ji26) (x8_2.length : Int))))) = true then ((vote_Trips.f (wrap64 (a0)) x11_3).bind fun t220 => (if t220 = true then (some false) else ((vote_Trips.f (wrap64 (a0)) ([] : List (S29))).bind fun t221 => (if t221 = true then (some false) else ((vote_Need.f (wrap64 (a0)) x11_3).bind fun t222 => (if t222 = 0 then ((vote_Healthy.f (wrap64 (a0)) x8_2).bind fun t223 => ((vote_Trips.f (wrap64 (a0)) x8_2).bind fun t224 => (some (t223 == (!t224))))) else (some false))))))) else (some false)) else (if (t219 == false) = true then ((vote_Trips.f (wrap64 (a0)) x11_3).bind fun t225 => (if t225 = true then (some false) else ((vote_Trips.f (wrap64 (a0)) ([] : List (S29))).bind fun t226 => (if t226 = true then (some false) else ((vote_Need.f (wrap64 (a0)) x11_3).bind fun t227 => (if t227 = 0 then ((vote_Healthy.f (wrap64 (a0)) x8_2).bind fun t228 => ((vote_Trips.f (wrap64 (a0)) x8_2).bind fun t229 => (some (t228 == (!t229))))) else (some false))))))) else (some false)))) else (some false)) = some r := by first | (rw [hji26] at H; exact H) | (simp only [hji26] at H ⊢; exact H)
                        have hji26_ : (if (wrap64 (a0)) < 1 then 1 else (wrap64 (a0))) = ji26 := hji26
                        obtain ⟨ji27, hji27⟩ : ∃ j_ : Int, (mn (ji26) (x8_2.length : Int)) = j_ := ⟨_, rfl⟩
                        replace H : (if t206 = true then ((vote_Trips.f (wrap64 (a0)) x8_2).bind fun t219 => (if (x8_2.length : Int) > 0 then (if (t219 == (decide ((wrap64 (a1)) ≥ (ji27)))) = true then ((vote_Trips.f (wrap64 (a0)) x11_3).bind fun t220 => (if t220 = true then (some false) else ((vote_Trips.f (wrap64 (a0)) ([] : List (S29))).bind fun t221 => (if t221 = true then (some false) else ((vote_Need.f (wrap64 (a0)) x11_3).bind fun t222 => (if t222 = 0 then ((vote_Healthy.f (wrap64 (a0)) x8_2).bind fun t223 => ((vote_Trips.f (wrap64 (a0)) x8_2).bind fun t224 => (some (t223 == (!t224))))) else (some false))))))) else (some false)) else (if (t219 == false) = true then ((vote_Trips.f (wrap64 (a0)) x11_3).bind fun t225 => (if t225 = true then (some false) else ((vote_Trips.f (wrap64 (a0)) ([] : List (S29))).bind fun t226 => (if t226 = true then (some false) else ((vote_Need.f (wrap64 (a0)) x11_3).bind fun t227 => (if t227 = 0 then ((vote_Healthy.f (wrap64 (a0)) x8_2).bind fun t228 => ((vote_Trips.f (wrap64 (a0)) x8_2).bind fun t229 => (some (t228 == (!t229))))) else (some false))))))) else (some false)))) else (some false)) = some r := by first | (rw [hji27] at H; exact H) | (simp only [hji27] at H ⊢; exact H)
                        have hji27_ : (if (x8_2.length : Int) < (ji26) then (x8_2.length : Int) else (ji26)) = ji27 := hji27
                        by_cases c28 : t206 = true
                        · subst c28
                          have H1 : ((vote_Trips.f (wrap64 (a0)) x8_2).bind fun t219 => (if (x8_2.length : Int) > 0 then (if (t219 == (decide ((wrap64 (a1)) ≥ (ji27)))) = true then ((vote_Trips.f (wrap64 (a0)) x11_3).bind fun t220 => (if t220 = true then (some false) else ((vote_Trips.f (wrap64 (a0)) ([] : List (S29))).bind fun t221 => (if t221 = true then (some false) else ((vote_Need.f (wrap64 (a0)) x11_3).bind fun t222 => (if t222 = 0 then ((vote_Healthy.f (wrap64 (a0)) x8_2).bind fun t223 => ((vote_Trips.f (wrap64 (a0)) x8_2).bind fun t224 => (some (t223 == (!t224))))) else (some false))))))) else (some false)) else (if (t219 == false) = true then ((vote_Trips.f (wrap64 (a0)) x11_3).bind fun t225 => (if t225 = true then (some false) else ((vote_Trips.f (wrap64 (a0)) ([] : List (S29))).bind fun t226 => (if t226 = true then (some false) else ((vote_Need.f (wrap64 (a0)) x11_3).bind fun t227 => (if t227 = 0 then ((vote_Healthy.f (wrap64 (a0)) x8_2).bind fun t228 => ((vote_Trips.f (wrap64 (a0)) x8_2).bind fun t229 => (some (t228 == (!t229))))) else (some false))))))) else (some false)))) = some r := by rw [if_pos rfl] at H; exact H
                          clear H
                          have H := H1
                          clear H1
                          replace H := Option.bind_eq_some_iff.mp H
                          obtain ⟨t219, A290, H⟩ := H
                          replace H : (if (x8_2.length : Int) > 0 then (if (t219 == (decide ((wrap64 (a1)) ≥ (ji27)))) = true then ((vote_Trips.f (wrap64 (a0)) x11_3).bind fun t220 => (if t220 = true then (some false) else ((vote_Trips.f (wrap64 (a0)) ([] : List (S29))).bind fun t221 => (if t221 = true then (some false) else ((vote_Need.f (wrap64 (a0)) x11_3).bind fun t222 => (if t222 = 0 then ((vote_Healthy.f (wrap64 (a0)) x8_2).bind fun t223 => ((vote_Trips.f (wrap64 (a0)) x8_2).bind fun t224 => (some (t223 == (!t224))))) else (some false))))))) else (some false)) else (if (t219 == false) = true then ((vote_Trips.f (wrap64 (a0)) x11_3).bind fun t225 => (if t225 = true then (some false) else ((vote_Trips.f (wrap64 (a0)) ([] : List (S29))).bind fun t226 => (if t226 = true then (some false) else ((vote_Need.f (wrap64 (a0)) x11_3).bind fun t227 => (if t227 = 0 then ((vote_Healthy.f (wrap64 (a0)) x8_2).bind fun t228 => ((vote_Trips.f (wrap64 (a0)) x8_2).bind fun t229 => (some (t228 == (!t229))))) else (some false))))))) else (some false))) = some r := H
                          have A29 := Aside0.mk A290
                          clear A290
                          by_cases c30 : (x8_2.length : Int) > 0
                          · rw [if_pos c30] at H
                            have c30b0 : decide (0 < (x8_2.length : Int)) = true := decide_eq_true c30
                            have c30b1 : decide (0 < x8_2.length) = true := decide_eq_true (by omega)
                            clear c30
                            by_cases c31 : (t219 == (decide ((wrap64 (a1)) ≥ (ji27)))) = true
                            · rw [if_pos c31] at H
                              have c31b0 : (t219 == (decide ((wrap64 (a1)) ≥ (ji27)))) = true := c31
                              (try (have c31b1 : decide (t219 = (decide ((wrap64 (a1)) ≥ (ji27)))) = true := by simpa using c31))
                              (try (have c31b2 : (t219 == (decide ((wrap64 (a1)) ≥ (ji27)))) = true := by simpa using c31))
                              clear c31
                              replace H := Option.bind_eq_some_iff.mp H
                              obtain ⟨t220, A320, H⟩ := H
                              replace H : (if t220 = true then (some false) else ((vote_Trips.f (wrap64 (a0)) ([] : List (S29))).bind fun t221 => (if t221 = true then (some false) else ((vote_Need.f (wrap64 (a0)) x11_3).bind fun t222 => (if t222 = 0 then ((vote_Healthy.f (wrap64 (a0)) x8_2).bind fun t223 => ((vote_Trips.f (wrap64 (a0)) x8_2).bind fun t224 => (some (t223 == (!t224))))) else (some false)))))) = some r := H
                              have A32 := Aside0.mk A320
                              clear A320
                              by_cases c33 : t220 = true
                              · subst c33
                                have H1 : (some false) = some r := by rw [if_pos rfl] at H; exact H
                                clear H
                                have H := H1
                                clear H1
                                obtain rfl := Option.some.inj H
                                go_wp2_with fail
                                (go_at_call 13; (with_reducible refine (vote_Trips.calls (wrap64 (a0)) _ _ x8_2 t219 _ ?side1 ?side2 A29.out).mono ?_); (case side1 => repeat (first | exact (Kd.R_reads' HO_8.out).2.2 | (with_reducible refine Kd.C_alloc ?_ _) | (with_reducible refine Kd.C_drewN ?_ _) | (with_reducible refine Kd.C_drew ?_))); (case side2 => exact (Kd.R_reads' HO_8.out).2.1); rintro e w34 ⟨rfl, hb⟩; have n0_ := Aside0.mk (Kd.R_below (by (with_reducible repeat (first | apply Kd.R_alloc | apply Kd.R_drewN | apply Kd.R_drew)); exact HO_8.out) hb); have n1_ := Aside0.mk (Kd.R_below (by (with_reducible repeat (first | apply Kd.R_alloc | apply Kd.R_drewN | apply Kd.R_drew)); exact HO_11.out) hb); have n2_ := Aside0.mk (below_step (by repeat (first | (with_reducible first | exact HB.out | apply below_alloc | apply pw_below_drewN | apply below_drew1) | exact HB.out)) hb); clear HO_8; clear HO_11; clear HB; have HO_8 := n0_; have HO_11 := n1_; have HB := n2_; clear n0_ n1_ n2_; (try clear hb); (try clear hb2); (try clear hgn); (try clear hk); (try clear hi); obtain ⟨Ao35, co35, eo35⟩ := Kd.R_slice HO_11.out; subst eo35)
                                go_wp2_with fail
                                (go_at_call 13; (with_reducible refine (vote_Trips.calls (wrap64 (a0)) _ _ x11_3 true _ ?side1 ?side2 A32.out).mono ?_); (case side1 => repeat (first | exact (Kd.R_reads' HO_11.out).2.2 | (with_reducible refine Kd.C_alloc ?_ _) | (with_reducible refine Kd.C_drewN ?_ _) | (with_reducible refine Kd.C_drew ?_))); (case side2 => exact (Kd.R_reads' HO_11.out).2.1); rintro e w36 ⟨rfl, hb⟩; have n0_ := Aside0.mk (Kd.R_below (by (with_reducible repeat (first | apply Kd.R_alloc | apply Kd.R_drewN | apply Kd.R_drew)); exact HO_8.out) hb); have n1_ := Aside0.mk (Kd.R_below (by (with_reducible repeat (first | apply Kd.R_alloc | apply Kd.R_drewN | apply Kd.R_drew)); exact HO_11.out) hb); have n2_ := Aside0.mk (below_step (by repeat (first | (with_reducible first | exact HB.out | apply below_alloc | apply pw_below_drewN | apply below_drew1) | exact HB.out)) hb); clear HO_8; clear HO_11; clear HB; have HO_8 := n0_; have HO_11 := n1_; have HB := n2_; clear n0_ n1_ n2_; (try clear hb); (try clear hb2); (try clear hgn); (try clear hk); (try clear hi))
                                go_wp2_with fail
                                go_ret
                                exact ⟨by first | rfl | (simp [errW_none, errW_some] <;> rfl) | (simp only [← hji26, ← hji27]; first | rfl | (simp [errW_none, errW_some] <;> rfl)) | (simp [*, errW_none, errW_some] <;> rfl), by repeat (first | (with_reducible first | exact HB.out | apply below_alloc | apply pw_below_drewN | apply below_drew1) | exact HB.out)⟩
                              · replace c33 := Bool.eq_false_iff.mpr c33
                                subst c33
                                have H1 : ((vote_Trips.f (wrap64 (a0)) ([] : List (S29))).bind fun t221 => (if t221 = true then (some false) else ((vote_Need.f (wrap64 (a0)) x11_3).bind fun t222 => (if t222 = 0 then ((vote_Healthy.f (wrap64 (a0)) x8_2).bind fun t223 => ((vote_Trips.f (wrap64 (a0)) x8_2).bind fun t224 => (some (t223 == (!t224))))) else (some false))))) = some r := by rw [if_neg (show ¬ (false = true) by decide)] at H; exact H
                                clear H
                                have H := H1
                                clear H1
                                replace H := Option.bind_eq_some_iff.mp H
                                obtain ⟨t221, A370, H⟩ := H
                                replace H : (if t221 = true then (some false) else ((vote_Need.f (wrap64 (a0)) x11_3).bind fun t222 => (if t222 = 0 then ((vote_Healthy.f (wrap64 (a0)) x8_2).bind fun t223 => ((vote_Trips.f (wrap64 (a0)) x8_2).bind fun t224 => (some (t223 == (!t224))))) else (some false)))) = some r := H
                                have A37 := Aside0.mk A370
                                clear A370
                                by_cases c38 : t221 = true
                                · subst c38
                                  have H1 : (some false) = some r := by rw [if_pos rfl] at H; exact H
                                  clear H
                                  have H := H1
                                  clear H1
                                  obtain rfl := Option.some.inj H
                                  go_wp2_with fail
                                  (go_at_call 13; (with_reducible refine (vote_Trips.calls (wrap64 (a0)) _ _ x8_2 t219 _ ?side1 ?side2 A29.out).mono ?_); (case side1 => repeat (first | exact (Kd.R_reads' HO_8.out).2.2 | (with_reducible refine Kd.C_alloc ?_ _) | (with_reducible refine Kd.C_drewN ?_ _) | (with_reducible refine Kd.C_drew ?_))); (case side2 => exact (Kd.R_reads' HO_8.out).2.1); rintro e w39 ⟨rfl, hb⟩; have n0_ := Aside0.mk (Kd.R_below (by (with_reducible repeat (first | apply Kd.R_alloc | apply Kd.R_drewN | apply Kd.R_drew)); exact HO_8.out) hb); have n1_ := Aside0.mk (Kd.R_below (by (with_reducible repeat (first | apply Kd.R_alloc | apply Kd.R_drewN | apply Kd.R_drew)); exact HO_11.out) hb); have n2_ := Aside0.mk (below_step (by repeat (first | (with_reducible first | exact HB.out | apply below_alloc | apply pw_below_drewN | apply below_drew1) | exact HB.out)) hb); clear HO_8; clear HO_11; clear HB; have HO_8 := n0_; have HO_11 := n1_; have HB := n2_; clear n0_ n1_ n2_; (try clear hb); (try clear hb2); (try clear hgn); (try clear hk); (try clear hi); obtain ⟨Ao40, co40, eo40⟩ := Kd.R_slice HO_11.out; subst eo40)
                                  go_wp2_with fail
                                  (go_at_call 13; (with_reducible refine (vote_Trips.calls (wrap64 (a0)) _ _ x11_3 false _ ?side1 ?side2 A32.out).mono ?_); (case side1 => repeat (first | exact (Kd.R_reads' HO_11.out).2.2 | (with_reducible refine Kd.C_alloc ?_ _) | (with_reducible refine Kd.C_drewN ?_ _) | (with_reducible refine Kd.C_drew ?_))); (case side2 => exact (Kd.R_reads' HO_11.out).2.1); rintro e w41 ⟨rfl, hb⟩; have n0_ := Aside0.mk (Kd.R_below (by (with_reducible repeat (first | apply Kd.R_alloc | apply Kd.R_drewN | apply Kd.R_drew)); exact HO_8.out) hb); have n1_ := Aside0.mk (Kd.R_below (by (with_reducible repeat (first | apply Kd.R_alloc | apply Kd.R_drewN | apply Kd.R_drew)); exact HO_11.out) hb); have n2_ := Aside0.mk (below_step (by repeat (first | (with_reducible first | exact HB.out | apply below_alloc | apply pw_below_drewN | apply below_drew1) | exact HB.out)) hb); clear HO_8; clear HO_11; clear HB; have HO_8 := n0_; have HO_11 := n1_; have HB := n2_; clear n0_ n1_ n2_; (try clear hb); (try clear hb2); (try clear hgn); (try clear hk); (try clear hi))
                                  go_wp2_with fail
                                  (go_at_call 13; (refine (vote_Trips.calls (wrap64 (a0)) _ _ ([] : List (S29)) true _ ?side1 ?side2 A37.out).mono ?_); (case side1 => exact Kd.C_nil _ _); (case side2 => exact Nat.le_refl _); rintro e w42 ⟨rfl, hb⟩; have n0_ := Aside0.mk (Kd.R_below (by (with_reducible repeat (first | apply Kd.R_alloc | apply Kd.R_drewN | apply Kd.R_drew)); exact HO_8.out) hb); have n1_ := Aside0.mk (Kd.R_below (by (with_reducible repeat (first | apply Kd.R_alloc | apply Kd.R_drewN | apply Kd.R_drew)); exact HO_11.out) hb); have n2_ := Aside0.mk (below_step (by repeat (first | (with_reducible first | exact HB.out | apply below_alloc | apply pw_below_drewN | apply below_drew1) | exact HB.out)) hb); clear HO_8; clear HO_11; clear HB; have HO_8 := n0_; have HO_11 := n1_; have HB := n2_; clear n0_ n1_ n2_; (try clear hb); (try clear hb2); (try clear hgn); (try clear hk); (try clear hi))
                                  go_wp2_with fail
                                  go_ret
                                  exact ⟨by first | rfl | (simp [errW_none, errW_some] <;> rfl) | (simp only [← hji26, ← hji27]; first | rfl | (simp [errW_none, errW_some] <;> rfl)) | (simp [*, errW_none, errW_some] <;> rfl), by repeat (first | (with_reducible first | exact HB.out | apply below_alloc | apply pw_below_drewN | apply below_drew1) | exact HB.out)⟩
                                · replace c38 := Bool.eq_false_iff.mpr c38
                                  subst c38
                                  have H1 : ((vote_Need.f (wrap64 (a0)) x11_3).bind fun t222 => (if t222 = 0 then ((vote_Healthy.f (wrap64 (a0)) x8_2).bind fun t223 => ((vote_Trips.f (wrap64 (a0)) x8_2).bind fun t224 => (some (t223 == (!t224))))) else (some false))) = some r := by rw [if_neg (show ¬ (false = true) by decide)] at H; exact H
                                  clear H
                                  have H := H1
                                  clear H1
                                  replace H := Option.bind_eq_some_iff.mp H
                                  obtain ⟨t222, A430, H⟩ := H
                                  replace H : (if t222 = 0 then ((vote_Healthy.f (wrap64 (a0)) x8_2).bind fun t223 => ((vote_Trips.f (wrap64 (a0)) x8_2).bind fun t224 => (some (t223 == (!t224))))) else (some false)) = some r := H
                                  have A43 := Aside0.mk A430
                                  clear A430
                                  by_cases c44 : t222 = 0
                                  · rw [if_pos c44] at H
                                    have c44b0 : (t222 == 0) = true := beq_iff_eq.mpr c44
                                    have c44b1 : (t222 != 0) = false := bne_eq_false_iff_eq.mpr c44
                                    clear c44
                                    replace H := Option.bind_eq_some_iff.mp H
                                    obtain ⟨t223, A450, H⟩ := H
                                    replace H : ((vote_Trips.f (wrap64 (a0)) x8_2).bind fun t224 => (some (t223 == (!t224)))) = some r := H
                                    have A45 := Aside0.mk A450
                                    clear A450
                                    replace H := Option.bind_eq_some_iff.mp H
                                    obtain ⟨t224, A460, H⟩ := H
                                    replace H : (some (t223 == (!t224))) = some r := H
                                    have A46 := Aside0.mk A460
                                    clear A460
                                    obtain rfl := Option.some.inj H
                                    go_wp2_with fail
                                    (go_at_call 13; (with_reducible refine (vote_Trips.calls (wrap64 (a0)) _ _ x8_2 t219 _ ?side1 ?side2 A29.out).mono ?_); (case side1 => repeat (first | exact (Kd.R_reads' HO_8.out).2.2 | (with_reducible refine Kd.C_alloc ?_ _) | (with_reducible refine Kd.C_drewN ?_ _) | (with_reducible refine Kd.C_drew ?_))); (case side2 => exact (Kd.R_reads' HO_8.out).2.1); rintro e w47 ⟨rfl, hb⟩; have n0_ := Aside0.mk (Kd.R_below (by (with_reducible repeat (first | apply Kd.R_alloc | apply Kd.R_drewN | apply Kd.R_drew)); exact HO_8.out) hb); have n1_ := Aside0.mk (Kd.R_below (by (with_reducible repeat (first | apply Kd.R_alloc | apply Kd.R_drewN | apply Kd.R_drew)); exact HO_11.out) hb); have n2_ := Aside0.mk (below_step (by repeat (first | (with_reducible first | exact HB.out | apply below_alloc | apply pw_below_drewN | apply below_drew1) | exact HB.out)) hb); clear HO_8; clear HO_11; clear HB; have HO_8 := n0_; have HO_11 := n1_; have HB := n2_; clear n0_ n1_ n2_; (try clear hb); (try clear hb2); (try clear hgn); (try clear hk); (try clear hi); obtain ⟨Ao48, co48, eo48⟩ := Kd.R_slice HO_11.out; subst eo48)
                                    go_wp2_with fail
                                    (go_at_call 13; (with_reducible refine (vote_Trips.calls (wrap64 (a0)) _ _ x11_3 false _ ?side1 ?side2 A32.out).mono ?_); (case side1 => repeat (first | exact (Kd.R_reads' HO_11.out).2.2 | (with_reducible refine Kd.C_alloc ?_ _) | (with_reducible refine Kd.C_drewN ?_ _) | (with_reducible refine Kd.C_drew ?_))); (case side2 => exact (Kd.R_reads' HO_11.out).2.1); rintro e w49 ⟨rfl, hb⟩; have n0_ := Aside0.mk (Kd.R_below (by (with_reducible repeat (first | apply Kd.R_alloc | apply Kd.R_drewN | apply Kd.R_drew)); exact HO_8.out) hb); have n1_ := Aside0.mk (Kd.R_below (by (with_reducible repeat (first | apply Kd.R_alloc | apply Kd.R_drewN | apply Kd.R_drew)); exact HO_11.out) hb); have n2_ := Aside0.mk (below_step (by repeat (first | (with_reducible first | exact HB.out | apply below_alloc | apply pw_below_drewN | apply below_drew1) | exact HB.out)) hb); clear HO_8; clear HO_11; clear HB; have HO_8 := n0_; have HO_11 := n1_; have HB := n2_; clear n0_ n1_ n2_; (try clear hb); (try clear hb2); (try clear hgn); (try clear hk); (try clear hi))
                                    go_wp2_with fail
                                    (go_at_call 13; (refine (vote_Trips.calls (wrap64 (a0)) _ _ ([] : List (S29)) false _ ?side1 ?side2 A37.out).mono ?_); (case side1 => exact Kd.C_nil _ _); (case side2 => exact Nat.le_refl _); rintro e w50 ⟨rfl, hb⟩; have n0_ := Aside0.mk (Kd.R_below (by (with_reducible repeat (first | apply Kd.R_alloc | apply Kd.R_drewN | apply Kd.R_drew)); exact HO_8.out) hb); have n1_ := Aside0.mk (Kd.R_below (by (with_reducible repeat (first | apply Kd.R_alloc | apply Kd.R_drewN | apply Kd.R_drew)); exact HO_11.out) hb); have n2_ := Aside0.mk (below_step (by repeat (first | (with_reducible first | exact HB.out | apply below_alloc | apply pw_below_drewN | apply below_drew1) | exact HB.out)) hb); clear HO_8; clear HO_11; clear HB; have HO_8 := n0_; have HO_11 := n1_; have HB := n2_; clear n0_ n1_ n2_; (try clear hb); (try clear hb2); (try clear hgn); (try clear hk); (try clear hi))
                                    go_wp2_with fail
                                    (go_at_call 11; (with_reducible refine (vote_Need.calls (wrap64 (a0)) _ _ x11_3 t222 _ ?side1 ?side2 A43.out).mono ?_); (case side1 => repeat (first | exact (Kd.R_reads' HO_11.out).2.2 | (with_reducible refine Kd.C_alloc ?_ _) | (with_reducible refine Kd.C_drewN ?_ _) | (with_reducible refine Kd.C_drew ?_))); (case side2 => exact (Kd.R_reads' HO_11.out).2.1); rintro e w51 ⟨rfl, hb⟩; have n0_ := Aside0.mk (Kd.R_below (by (with_reducible repeat (first | apply Kd.R_alloc | apply Kd.R_drewN | apply Kd.R_drew)); exact HO_8.out) hb); have n1_ := Aside0.mk (Kd.R_below (by (with_reducible repeat (first | apply Kd.R_alloc | apply Kd.R_drewN | apply Kd.R_drew)); exact HO_11.out) hb); have n2_ := Aside0.mk (below_step (by repeat (first | (with_reducible first | exact HB.out | apply below_alloc | apply pw_below_drewN | apply below_drew1) | exact HB.out)) hb); clear HO_8; clear HO_11; clear HB; have HO_8 := n0_; have HO_11 := n1_; have HB := n2_; clear n0_ n1_ n2_; (try clear hb); (try clear hb2); (try clear hgn); (try clear hk); (try clear hi))
                                    go_wp2_with fail
                                    (go_at_call 15; (with_reducible refine (vote_Healthy.calls (wrap64 (a0)) _ _ x8_2 t223 _ ?side1 ?side2 A45.out).mono ?_); (case side1 => repeat (first | exact (Kd.R_reads' HO_8.out).2.2 | (with_reducible refine Kd.C_alloc ?_ _) | (with_reducible refine Kd.C_drewN ?_ _) | (with_reducible refine Kd.C_drew ?_))); (case side2 => exact (Kd.R_reads' HO_8.out).2.1); rintro e w52 ⟨rfl, hb⟩; have n0_ := Aside0.mk (Kd.R_below (by (with_reducible repeat (first | apply Kd.R_alloc | apply Kd.R_drewN | apply Kd.R_drew)); exact HO_8.out) hb); have n1_ := Aside0.mk (Kd.R_below (by (with_reducible repeat (first | apply Kd.R_alloc | apply Kd.R_drewN | apply Kd.R_drew)); exact HO_11.out) hb); have n2_ := Aside0.mk (below_step (by repeat (first | (with_reducible first | exact HB.out | apply below_alloc | apply pw_below_drewN | apply below_drew1) | exact HB.out)) hb); clear HO_8; clear HO_11; clear HB; have HO_8 := n0_; have HO_11 := n1_; have HB := n2_; clear n0_ n1_ n2_; (try clear hb); (try clear hb2); (try clear hgn); (try clear hk); (try clear hi))
                                    go_wp2_with fail
                                    (go_at_call 13; (with_reducible refine (vote_Trips.calls (wrap64 (a0)) _ _ x8_2 t224 _ ?side1 ?side2 A46.out).mono ?_); (case side1 => repeat (first | exact (Kd.R_reads' HO_8.out).2.2 | (with_reducible refine Kd.C_alloc ?_ _) | (with_reducible refine Kd.C_drewN ?_ _) | (with_reducible refine Kd.C_drew ?_))); (case side2 => exact (Kd.R_reads' HO_8.out).2.1); rintro e w53 ⟨rfl, hb⟩; have n0_ := Aside0.mk (Kd.R_below (by (with_reducible repeat (first | apply Kd.R_alloc | apply Kd.R_drewN | apply Kd.R_drew)); exact HO_8.out) hb); have n1_ := Aside0.mk (Kd.R_below (by (with_reducible repeat (first | apply Kd.R_alloc | apply Kd.R_drewN | apply Kd.R_drew)); exact HO_11.out) hb); have n2_ := Aside0.mk (below_step (by repeat (first | (with_reducible first | exact HB.out | apply below_alloc | apply pw_below_drewN | apply below_drew1) | exact HB.out)) hb); clear HO_8; clear HO_11; clear HB; have HO_8 := n0_; have HO_11 := n1_; have HB := n2_; clear n0_ n1_ n2_; (try clear hb); (try clear hb2); (try clear hgn); (try clear hk); (try clear hi))
                                    go_wp2_with fail
                                    go_ret
                                    exact ⟨by first | rfl | (simp [errW_none, errW_some] <;> rfl) | (simp only [← hji26, ← hji27]; first | rfl | (simp [errW_none, errW_some] <;> rfl)) | (simp [*, errW_none, errW_some] <;> rfl), by repeat (first | (with_reducible first | exact HB.out | apply below_alloc | apply pw_below_drewN | apply below_drew1) | exact HB.out)⟩
                                  · rw [if_neg c44] at H
                                    have c44b0 : (t222 == 0) = false := beq_eq_false_iff_ne.mpr c44
                                    have c44b1 : (t222 != 0) = true := bne_iff_ne.mpr c44
                                    obtain rfl := Option.some.inj H
                                    go_wp2_with fail
                                    (go_at_call 13; (with_reducible refine (vote_Trips.calls (wrap64 (a0)) _ _ x8_2 t219 _ ?side1 ?side2 A29.out).mono ?_); (case side1 => repeat (first | exact (Kd.R_reads' HO_8.out).2.2 | (with_reducible refine Kd.C_alloc ?_ _) | (with_reducible refine Kd.C_drewN ?_ _) | (with_reducible refine Kd.C_drew ?_))); (case side2 => exact (Kd.R_reads' HO_8.out).2.1); rintro e w54 ⟨rfl, hb⟩; have n0_ := Aside0.mk (Kd.R_below (by (with_reducible repeat (first | apply Kd.R_alloc | apply Kd.R_drewN | apply Kd.R_drew)); exact HO_8.out) hb); have n1_ := Aside0.mk (Kd.R_below (by (with_reducible repeat (first | apply Kd.R_alloc | apply Kd.R_drewN | apply Kd.R_drew)); exact HO_11.out) hb); have n2_ := Aside0.mk (below_step (by repeat (first | (with_reducible first | exact HB.out | apply below_alloc | apply pw_below_drewN | apply below_drew1) | exact HB.out)) hb); clear HO_8; clear HO_11; clear HB; have HO_8 := n0_; have HO_11 := n1_; have HB := n2_; clear n0_ n1_ n2_; (try clear hb); (try clear hb2); (try clear hgn); (try clear hk); (try clear hi); obtain ⟨Ao55, co55, eo55⟩ := Kd.R_slice HO_11.out; subst eo55)
                                    go_wp2_with fail
                                    (go_at_call 13; (with_reducible refine (vote_Trips.calls (wrap64 (a0)) _ _ x11_3 false _ ?side1 ?side2 A32.out).mono ?_); (case side1 => repeat (first | exact (Kd.R_reads' HO_11.out).2.2 | (with_reducible refine Kd.C_alloc ?_ _) | (with_reducible refine Kd.C_drewN ?_ _) | (with_reducible refine Kd.C_drew ?_))); (case side2 => exact (Kd.R_reads' HO_11.out).2.1); rintro e w56 ⟨rfl, hb⟩; have n0_ := Aside0.mk (Kd.R_below (by (with_reducible repeat (first | apply Kd.R_alloc | apply Kd.R_drewN | apply Kd.R_drew)); exact HO_8.out) hb); have n1_ := Aside0.mk (Kd.R_below (by (with_reducible repeat (first | apply Kd.R_alloc | apply Kd.R_drewN | apply Kd.R_drew)); exact HO_11.out) hb); have n2_ := Aside0.mk (below_step (by repeat (first | (with_reducible first | exact HB.out | apply below_alloc | apply pw_below_drewN | apply below_drew1) | exact HB.out)) hb); clear HO_8; clear HO_11; clear HB; have HO_8 := n0_; have HO_11 := n1_; have HB := n2_; clear n0_ n1_ n2_; (try clear hb); (try clear hb2); (try clear hgn); (try clear hk); (try clear hi))
                                    go_wp2_with fail
                                    (go_at_call 13; (refine (vote_Trips.calls (wrap64 (a0)) _ _ ([] : List (S29)) false _ ?side1 ?side2 A37.out).mono ?_); (case side1 => exact Kd.C_nil _ _); (case side2 => exact Nat.le_refl _); rintro e w57 ⟨rfl, hb⟩; have n0_ := Aside0.mk (Kd.R_below (by (with_reducible repeat (first | apply Kd.R_alloc | apply Kd.R_drewN | apply Kd.R_drew)); exact HO_8.out) hb); have n1_ := Aside0.mk (Kd.R_below (by (with_reducible repeat (first | apply Kd.R_alloc | apply Kd.R_drewN | apply Kd.R_drew)); exact HO_11.out) hb); have n2_ := Aside0.mk (below_step (by repeat (first | (with_reducible first | exact HB.out | apply below_alloc | apply pw_below_drewN | apply below_drew1) | exact HB.out)) hb); clear HO_8; clear HO_11; clear HB; have HO_8 := n0_; have HO_11 := n1_; have HB := n2_; clear n0_ n1_ n2_; (try clear hb); (try clear hb2); (try clear hgn); (try clear hk); (try clear hi))
                                    go_wp2_with fail
                                    (go_at_call 11; (with_reducible refine (vote_Need.calls (wrap64 (a0)) _ _ x11_3 t222 _ ?side1 ?side2 A43.out).mono ?_); (case side1 => repeat (first | exact (Kd.R_reads' HO_11.out).2.2 | (with_reducible refine Kd.C_alloc ?_ _) | (with_reducible refine Kd.C_drewN ?_ _) | (with_reducible refine Kd.C_drew ?_))); (case side2 => exact (Kd.R_reads' HO_11.out).2.1); rintro e w58 ⟨rfl, hb⟩; have n0_ := Aside0.mk (Kd.R_below (by (with_reducible repeat (first | apply Kd.R_alloc | apply Kd.R_drewN | apply Kd.R_drew)); exact HO_8.out) hb); have n1_ := Aside0.mk (Kd.R_below (by (with_reducible repeat (first | apply Kd.R_alloc | apply Kd.R_drewN | apply Kd.R_drew)); exact HO_11.out) hb); have n2_ := Aside0.mk (below_step (by repeat (first | (with_reducible first | exact HB.out | apply below_alloc | apply pw_below_drewN | apply below_drew1) | exact HB.out)) hb); clear HO_8; clear HO_11; clear HB; have HO_8 := n0_; have HO_11 := n1_; have HB := n2_; clear n0_ n1_ n2_; (try clear hb); (try clear hb2); (try clear hgn); (try clear hk); (try clear hi))
                                    go_wp2_with fail
                                    go_ret
                                    exact ⟨by first | rfl | (simp [errW_none, errW_some] <;> rfl) | (simp only [← hji26, ← hji27]; first | rfl | (simp [errW_none, errW_some] <;> rfl)) | (simp [*, errW_none, errW_some] <;> rfl), by repeat (first | (with_reducible first | exact HB.out | apply below_alloc | apply pw_below_drewN | apply below_drew1) | exact HB.out)⟩
                            · rw [if_neg c31] at H
                              have c31b0 : (t219 == (decide ((wrap64 (a1)) ≥ (ji27)))) = false := by simpa using c31
                              (try (have c31b1 : decide (t219 = (decide ((wrap64 (a1)) ≥ (ji27)))) = false := by simpa using c31))
                              (try (have c31b2 : (t219 == (decide ((wrap64 (a1)) ≥ (ji27)))) = false := by simpa using c31))
                              (try (have c31b3 : ¬ (t219 = (decide ((wrap64 (a1)) ≥ (ji27)))) := by simpa using c31))
                              clear c31
                              obtain rfl := Option.some.inj H
                              go_wp2_with (first | (go_at_call 13; (with_reducible refine (vote_Trips.calls (wrap64 (a0)) _ _ x8_2 t219 _ ?side1 ?side2 A29.out).mono ?_); (case side1 => repeat (first | exact (Kd.R_reads' HO_8.out).2.2 | (with_reducible refine Kd.C_alloc ?_ _) | (with_reducible refine Kd.C_drewN ?_ _) | (with_reducible refine Kd.C_drew ?_))); (case side2 => exact (Kd.R_reads' HO_8.out).2.1); rintro e w59 ⟨rfl, hb⟩; have n0_ := Aside0.mk (Kd.R_below (by (with_reducible repeat (first | apply Kd.R_alloc | apply Kd.R_drewN | apply Kd.R_drew)); exact HO_8.out) hb); have n1_ := Aside0.mk (Kd.R_below (by (with_reducible repeat (first | apply Kd.R_alloc | apply Kd.R_drewN | apply Kd.R_drew)); exact HO_11.out) hb); have n2_ := Aside0.mk (below_step (by repeat (first | (with_reducible first | exact HB.out | apply below_alloc | apply pw_below_drewN | apply below_drew1) | exact HB.out)) hb); clear HO_8; clear HO_11; clear HB; have HO_8 := n0_; have HO_11 := n1_; have HB := n2_; clear n0_ n1_ n2_; (try clear hb); (try clear hb2); (try clear hgn); (try clear hk); (try clear hi)))
                              go_ret
                              exact ⟨by first | rfl | (simp [errW_none, errW_some] <;> rfl) | (simp only [← hji26, ← hji27]; first | rfl | (simp [errW_none, errW_some] <;> rfl)) | (simp [*, errW_none, errW_some] <;> rfl), by repeat (first | (with_reducible first | exact HB.out | apply below_alloc | apply pw_below_drewN | apply below_drew1) | exact HB.out)⟩
                          · rw [if_neg c30] at H
                            have c30b0 : decide (0 < (x8_2.length : Int)) = false := decide_eq_false c30
                            have c30b1 : decide (0 < x8_2.length) = false := decide_eq_false (by omega)
                            clear c30
                            by_cases c60 : (t219 == false) = true
                            · rw [if_pos c60] at H
                              have c60b0 : (t219 == false) = true := c60
                              (try (have c60b1 : decide (t219 = false) = true := by simpa using c60))
                              (try (have c60b2 : (t219 == false) = true := by simpa using c60))
                              clear c60
                              replace H := Option.bind_eq_some_iff.mp H
                              obtain ⟨t225, A610, H⟩ := H
                              replace H : (if t225 = true then (some false) else ((vote_Trips.f (wrap64 (a0)) ([] : List (S29))).bind fun t226 => (if t226 = true then (some false) else ((vote_Need.f (wrap64 (a0)) x11_3).bind fun t227 => (if t227 = 0 then ((vote_Healthy.f (wrap64 (a0)) x8_2).bind fun t228 => ((vote_Trips.f (wrap64 (a0)) x8_2).bind fun t229 => (some (t228 == (!t229))))) else (some false)))))) = some r := H
                              have A61 := Aside0.mk A610
                              clear A610
                              by_cases c62 : t225 = true
                              · subst c62
                                have H1 : (some false) = some r := by rw [if_pos rfl] at H; exact H
                                clear H
                                have H := H1
                                clear H1
                                obtain rfl := Option.some.inj H
                                go_wp2_with fail
                                (go_at_call 13; (with_reducible refine (vote_Trips.calls (wrap64 (a0)) _ _ x8_2 t219 _ ?side1 ?side2 A29.out).mono ?_); (case side1 => repeat (first | exact (Kd.R_reads' HO_8.out).2.2 | (with_reducible refine Kd.C_alloc ?_ _) | (with_reducible refine Kd.C_drewN ?_ _) | (with_reducible refine Kd.C_drew ?_))); (case side2 => exact (Kd.R_reads' HO_8.out).2.1); rintro e w63 ⟨rfl, hb⟩; have n0_ := Aside0.mk (Kd.R_below (by (with_reducible repeat (first | apply Kd.R_alloc | apply Kd.R_drewN | apply Kd.R_drew)); exact HO_8.out) hb); have n1_ := Aside0.mk (Kd.R_below (by (with_reducible repeat (first | apply Kd.R_alloc | apply Kd.R_drewN | apply Kd.R_drew)); exact HO_11.out) hb); have n2_ := Aside0.mk (below_step (by repeat (first | (with_reducible first | exact HB.out | apply below_alloc | apply pw_below_drewN | apply below_drew1) | exact HB.out)) hb); clear HO_8; clear HO_11; clear HB; have HO_8 := n0_; have HO_11 := n1_; have HB := n2_; clear n0_ n1_ n2_; (try clear hb); (try clear hb2); (try clear hgn); (try clear hk); (try clear hi); obtain ⟨Ao64, co64, eo64⟩ := Kd.R_slice HO_11.out; subst eo64)
                                go_wp2_with fail
                                (go_at_call 13; (with_reducible refine (vote_Trips.calls (wrap64 (a0)) _ _ x11_3 true _ ?side1 ?side2 A61.out).mono ?_); (case side1 => repeat (first | exact (Kd.R_reads' HO_11.out).2.2 | (with_reducible refine Kd.C_alloc ?_ _) | (with_reducible refine Kd.C_drewN ?_ _) | (with_reducible refine Kd.C_drew ?_))); (case side2 => exact (Kd.R_reads' HO_11.out).2.1); rintro e w65 ⟨rfl, hb⟩; have n0_ := Aside0.mk (Kd.R_below (by (with_reducible repeat (first | apply Kd.R_alloc | apply Kd.R_drewN | apply Kd.R_drew)); exact HO_8.out) hb); have n1_ := Aside0.mk (Kd.R_below (by (with_reducible repeat (first | apply Kd.R_alloc | apply Kd.R_drewN | apply Kd.R_drew)); exact HO_11.out) hb); have n2_ := Aside0.mk (below_step (by repeat (first | (with_reducible first | exact HB.out | apply below_alloc | apply pw_below_drewN | apply below_drew1) | exact HB.out)) hb); clear HO_8; clear HO_11; clear HB; have HO_8 := n0_; have HO_11 := n1_; have HB := n2_; clear n0_ n1_ n2_; (try clear hb); (try clear hb2); (try clear hgn); (try clear hk); (try clear hi))
                                go_wp2_with fail
                                go_ret
                                exact ⟨by first | rfl | (simp [errW_none, errW_some] <;> rfl) | (simp only [← hji26, ← hji27]; first | rfl | (simp [errW_none, errW_some] <;> rfl)) | (simp [*, errW_none, errW_some] <;> rfl), by repeat (first | (with_reducible first | exact HB.out | apply below_alloc | apply pw_below_drewN | apply below_drew1) | exact HB.out)⟩
                              · replace c62 := Bool.eq_false_iff.mpr c62
                                subst c62
                                have H1 : ((vote_Trips.f (wrap64 (a0)) ([] : List (S29))).bind fun t226 => (if t226 = true then (some false) else ((vote_Need.f (wrap64 (a0)) x11_3).bind fun t227 => (if t227 = 0 then ((vote_Healthy.f (wrap64 (a0)) x8_2).bind fun t228 => ((vote_Trips.f (wrap64 (a0)) x8_2).bind fun t229 => (some (t228 == (!t229))))) else (some false))))) = some r := by rw [if_neg (show ¬ (false = true) by decide)] at H; exact H
                                clear H
                                have H := H1
                                clear H1
                                replace H := Option.bind_eq_some_iff.mp H
                                obtain ⟨t226, A660, H⟩ := H
                                replace H : (if t226 = true then (some false) else ((vote_Need.f (wrap64 (a0)) x11_3).bind fun t227 => (if t227 = 0 then ((vote_Healthy.f (wrap64 (a0)) x8_2).bind fun t228 => ((vote_Trips.f (wrap64 (a0)) x8_2).bind fun t229 => (some (t228 == (!t229))))) else (some false)))) = some r := H
                                have A66 := Aside0.mk A660
                                clear A660
                                by_cases c67 : t226 = true
                                · subst c67
                                  have H1 : (some false) = some r := by rw [if_pos rfl] at H; exact H
                                  clear H
                                  have H := H1
                                  clear H1
                                  obtain rfl := Option.some.inj H
                                  go_wp2_with fail
                                  (go_at_call 13; (with_reducible refine (vote_Trips.calls (wrap64 (a0)) _ _ x8_2 t219 _ ?side1 ?side2 A29.out).mono ?_); (case side1 => repeat (first | exact (Kd.R_reads' HO_8.out).2.2 | (with_reducible refine Kd.C_alloc ?_ _) | (with_reducible refine Kd.C_drewN ?_ _) | (with_reducible refine Kd.C_drew ?_))); (case side2 => exact (Kd.R_reads' HO_8.out).2.1); rintro e w68 ⟨rfl, hb⟩; have n0_ := Aside0.mk (Kd.R_below (by (with_reducible repeat (first | apply Kd.R_alloc | apply Kd.R_drewN | apply Kd.R_drew)); exact HO_8.out) hb); have n1_ := Aside0.mk (Kd.R_below (by (with_reducible repeat (first | apply Kd.R_alloc | apply Kd.R_drewN | apply Kd.R_drew)); exact HO_11.out) hb); have n2_ := Aside0.mk (below_step (by repeat (first | (with_reducible first | exact HB.out | apply below_alloc | apply pw_below_drewN | apply below_drew1) | exact HB.out)) hb); clear HO_8; clear HO_11; clear HB; have HO_8 := n0_; have HO_11 := n1_; have HB := n2_; clear n0_ n1_ n2_; (try clear hb); (try clear hb2); (try clear hgn); (try clear hk); (try clear hi); obtain ⟨Ao69, co69, eo69⟩ := Kd.R_slice HO_11.out; subst eo69)
                                  go_wp2_with fail
                                  (go_at_call 13; (with_reducible refine (vote_Trips.calls (wrap64 (a0)) _ _ x11_3 false _ ?side1 ?side2 A61.out).mono ?_); (case side1 => repeat (first | exact (Kd.R_reads' HO_11.out).2.2 | (with_reducible refine Kd.C_alloc ?_ _) | (with_reducible refine Kd.C_drewN ?_ _) | (with_reducible refine Kd.C_drew ?_))); (case side2 => exact (Kd.R_reads' HO_11.out).2.1); rintro e w70 ⟨rfl, hb⟩; have n0_ := Aside0.mk (Kd.R_below (by (with_reducible repeat (first | apply Kd.R_alloc | apply Kd.R_drewN | apply Kd.R_drew)); exact HO_8.out) hb); have n1_ := Aside0.mk (Kd.R_below (by (with_reducible repeat (first | apply Kd.R_alloc | apply Kd.R_drewN | apply Kd.R_drew)); exact HO_11.out) hb); have n2_ := Aside0.mk (below_step (by repeat (first | (with_reducible first | exact HB.out | apply below_alloc | apply pw_below_drewN | apply below_drew1) | exact HB.out)) hb); clear HO_8; clear HO_11; clear HB; have HO_8 := n0_; have HO_11 := n1_; have HB := n2_; clear n0_ n1_ n2_; (try clear hb); (try clear hb2); (try clear hgn); (try clear hk); (try clear hi))
                                  go_wp2_with fail
                                  (go_at_call 13; (refine (vote_Trips.calls (wrap64 (a0)) _ _ ([] : List (S29)) true _ ?side1 ?side2 A66.out).mono ?_); (case side1 => exact Kd.C_nil _ _); (case side2 => exact Nat.le_refl _); rintro e w71 ⟨rfl, hb⟩; have n0_ := Aside0.mk (Kd.R_below (by (with_reducible repeat (first | apply Kd.R_alloc | apply Kd.R_drewN | apply Kd.R_drew)); exact HO_8.out) hb); have n1_ := Aside0.mk (Kd.R_below (by (with_reducible repeat (first | apply Kd.R_alloc | apply Kd.R_drewN | apply Kd.R_drew)); exact HO_11.out) hb); have n2_ := Aside0.mk (below_step (by repeat (first | (with_reducible first | exact HB.out | apply below_alloc | apply pw_below_drewN | apply below_drew1) | exact HB.out)) hb); clear HO_8; clear HO_11; clear HB; have HO_8 := n0_; have HO_11 := n1_; have HB := n2_; clear n0_ n1_ n2_; (try clear hb); (try clear hb2); (try clear hgn); (try clear hk); (try clear hi))
                                  go_wp2_with fail
                                  go_ret
                                  exact ⟨by first | rfl | (simp [errW_none, errW_some] <;> rfl) | (simp only [← hji26, ← hji27]; first | rfl | (simp [errW_none, errW_some] <;> rfl)) | (simp [*, errW_none, errW_some] <;> rfl), by repeat (first | (with_reducible first | exact HB.out | apply below_alloc | apply pw_below_drewN | apply below_drew1) | exact HB.out)⟩
                                · replace c67 := Bool.eq_false_iff.mpr c67
                                  subst c67
                                  have H1 : ((vote_Need.f (wrap64 (a0)) x11_3).bind fun t227 => (if t227 = 0 then ((vote_Healthy.f (wrap64 (a0)) x8_2).bind fun t228 => ((vote_Trips.f (wrap64 (a0)) x8_2).bind fun t229 => (some (t228 == (!t229))))) else (some false))) = some r := by rw [if_neg (show ¬ (false = true) by decide)] at H; exact H
                                  clear H
                                  have H := H1
                                  clear H1
                                  replace H := Option.bind_eq_some_iff.mp H
                                  obtain ⟨t227, A720, H⟩ := H
                                  replace H : (if t227 = 0 then ((vote_Healthy.f (wrap64 (a0)) x8_2).bind fun t228 => ((vote_Trips.f (wrap64 (a0)) x8_2).bind fun t229 => (some (t228 == (!t229))))) else (some false)) = some r := H
                                  have A72 := Aside0.mk A720
                                  clear A720
                                  by_cases c73 : t227 = 0
                                  · rw [if_pos c73] at H
                                    have c73b0 : (t227 == 0) = true := beq_iff_eq.mpr c73
                                    have c73b1 : (t227 != 0) = false := bne_eq_false_iff_eq.mpr c73
                                    clear c73
                                    replace H := Option.bind_eq_some_iff.mp H
                                    obtain ⟨t228, A740, H⟩ := H
                                    replace H : ((vote_Trips.f (wrap64 (a0)) x8_2).bind fun t229 => (some (t228 == (!t229)))) = some r := H
                                    have A74 := Aside0.mk A740
                                    clear A740
                                    replace H := Option.bind_eq_some_iff.mp H
                                    obtain ⟨t229, A750, H⟩ := H
                                    replace H : (some (t228 == (!t229))) = some r := H
                                    have A75 := Aside0.mk A750
                                    clear A750
                                    obtain rfl := Option.some.inj H
                                    go_wp2_with fail
                                    (go_at_call 13; (with_reducible refine (vote_Trips.calls (wrap64 (a0)) _ _ x8_2 t219 _ ?side1 ?side2 A29.out).mono ?_); (case side1 => repeat (first | exact (Kd.R_reads' HO_8.out).2.2 | (with_reducible refine Kd.C_alloc ?_ _) | (with_reducible refine Kd.C_drewN ?_ _) | (with_reducible refine Kd.C_drew ?_))); (case side2 => exact (Kd.R_reads' HO_8.out).2.1); rintro e w76 ⟨rfl, hb⟩; have n0_ := Aside0.mk (Kd.R_below (by (with_reducible repeat (first | apply Kd.R_alloc | apply Kd.R_drewN | apply Kd.R_drew)); exact HO_8.out) hb); have n1_ := Aside0.mk (Kd.R_below (by (with_reducible repeat (first | apply Kd.R_alloc | apply Kd.R_drewN | apply Kd.R_drew)); exact HO_11.out) hb); have n2_ := Aside0.mk (below_step (by repeat (first | (with_reducible first | exact HB.out | apply below_alloc | apply pw_below_drewN | apply below_drew1) | exact HB.out)) hb); clear HO_8; clear HO_11; clear HB; have HO_8 := n0_; have HO_11 := n1_; have HB := n2_; clear n0_ n1_ n2_; (try clear hb); (try clear hb2); (try clear hgn); (try clear hk); (try clear hi); obtain ⟨Ao77, co77, eo77⟩ := Kd.R_slice HO_11.out; subst eo77)
                                    go_wp2_with fail
                                    (go_at_call 13; (with_reducible refine (vote_Trips.calls (wrap64 (a0)) _ _ x11_3 false _ ?side1 ?side2 A61.out).mono ?_); (case side1 => repeat (first | exact (Kd.R_reads' HO_11.out).2.2 | (with_reducible refine Kd.C_alloc ?_ _) | (with_reducible refine Kd.C_drewN ?_ _) | (with_reducible refine Kd.C_drew ?_))); (case side2 => exact (Kd.R_reads' HO_11.out).2.1); rintro e w78 ⟨rfl, hb⟩; have n0_ := Aside0.mk (Kd.R_below (by (with_reducible repeat (first | apply Kd.R_alloc | apply Kd.R_drewN | apply Kd.R_drew)); exact HO_8.out) hb); have n1_ := Aside0.mk (Kd.R_below (by (with_reducible repeat (first | apply Kd.R_alloc | apply Kd.R_drewN | apply Kd.R_drew)); exact HO_11.out) hb); have n2_ := Aside0.mk (below_step (by repeat (first | (with_reducible first | exact HB.out | apply below_alloc | apply pw_below_drewN | apply below_drew1) | exact HB.out)) hb); clear HO_8; clear HO_11; clear HB; have HO_8 := n0_; have HO_11 := n1_; have HB := n2_; clear n0_ n1_ n2_; (try clear hb); (try clear hb2); (try clear hgn); (try clear hk); (try clear hi))
                                    go_wp2_with fail
                                    (go_at_call 13; (refine (vote_Trips.calls (wrap64 (a0)) _ _ ([] : List (S29)) false _ ?side1 ?side2 A66.out).mono ?_); (case side1 => exact Kd.C_nil _ _); (case side2 => exact Nat.le_refl _); rintro e w79 ⟨rfl, hb⟩; have n0_ := Aside0.mk (Kd.R_below (by (with_reducible repeat (first | apply Kd.R_alloc | apply Kd.R_drewN | apply Kd.R_drew)); exact HO_8.out) hb); have n1_ := Aside0.mk (Kd.R_below (by (with_reducible repeat (first | apply Kd.R_alloc | apply Kd.R_drewN | apply Kd.R_drew)); exact HO_11.out) hb); have n2_ := Aside0.mk (below_step (by repeat (first | (with_reducible first | exact HB.out | apply below_alloc | apply pw_below_drewN | apply below_drew1) | exact HB.out)) hb); clear HO_8; clear HO_11; clear HB; have HO_8 := n0_; have HO_11 := n1_; have HB := n2_; clear n0_ n1_ n2_; (try clear hb); (try clear hb2); (try clear hgn); (try clear hk); (try clear hi))
                                    go_wp2_with fail
                                    (go_at_call 11; (with_reducible refine (vote_Need.calls (wrap64 (a0)) _ _ x11_3 t227 _ ?side1 ?side2 A72.out).mono ?_); (case side1 => repeat (first | exact (Kd.R_reads' HO_11.out).2.2 | (with_reducible refine Kd.C_alloc ?_ _) | (with_reducible refine Kd.C_drewN ?_ _) | (with_reducible refine Kd.C_drew ?_))); (case side2 => exact (Kd.R_reads' HO_11.out).2.1); rintro e w80 ⟨rfl, hb⟩; have n0_ := Aside0.mk (Kd.R_below (by (with_reducible repeat (first | apply Kd.R_alloc | apply Kd.R_drewN | apply Kd.R_drew)); exact HO_8.out) hb); have n1_ := Aside0.mk (Kd.R_below (by (with_reducible repeat (first | apply Kd.R_alloc | apply Kd.R_drewN | apply Kd.R_drew)); exact HO_11.out) hb); have n2_ := Aside0.mk (below_step (by repeat (first | (with_reducible first | exact HB.out | apply below_alloc | apply pw_below_drewN | apply below_drew1) | exact HB.out)) hb); clear HO_8; clear HO_11; clear HB; have HO_8 := n0_; have HO_11 := n1_; have HB := n2_; clear n0_ n1_ n2_; (try clear hb); (try clear hb2); (try clear hgn); (try clear hk); (try clear hi))
                                    go_wp2_with fail
                                    (go_at_call 15; (with_reducible refine (vote_Healthy.calls (wrap64 (a0)) _ _ x8_2 t228 _ ?side1 ?side2 A74.out).mono ?_); (case side1 => repeat (first | exact (Kd.R_reads' HO_8.out).2.2 | (with_reducible refine Kd.C_alloc ?_ _) | (with_reducible refine Kd.C_drewN ?_ _) | (with_reducible refine Kd.C_drew ?_))); (case side2 => exact (Kd.R_reads' HO_8.out).2.1); rintro e w81 ⟨rfl, hb⟩; have n0_ := Aside0.mk (Kd.R_below (by (with_reducible repeat (first | apply Kd.R_alloc | apply Kd.R_drewN | apply Kd.R_drew)); exact HO_8.out) hb); have n1_ := Aside0.mk (Kd.R_below (by (with_reducible repeat (first | apply Kd.R_alloc | apply Kd.R_drewN | apply Kd.R_drew)); exact HO_11.out) hb); have n2_ := Aside0.mk (below_step (by repeat (first | (with_reducible first | exact HB.out | apply below_alloc | apply pw_below_drewN | apply below_drew1) | exact HB.out)) hb); clear HO_8; clear HO_11; clear HB; have HO_8 := n0_; have HO_11 := n1_; have HB := n2_; clear n0_ n1_ n2_; (try clear hb); (try clear hb2); (try clear hgn); (try clear hk); (try clear hi))
                                    go_wp2_with fail
                                    (go_at_call 13; (with_reducible refine (vote_Trips.calls (wrap64 (a0)) _ _ x8_2 t229 _ ?side1 ?side2 A75.out).mono ?_); (case side1 => repeat (first | exact (Kd.R_reads' HO_8.out).2.2 | (with_reducible refine Kd.C_alloc ?_ _) | (with_reducible refine Kd.C_drewN ?_ _) | (with_reducible refine Kd.C_drew ?_))); (case side2 => exact (Kd.R_reads' HO_8.out).2.1); rintro e w82 ⟨rfl, hb⟩; have n0_ := Aside0.mk (Kd.R_below (by (with_reducible repeat (first | apply Kd.R_alloc | apply Kd.R_drewN | apply Kd.R_drew)); exact HO_8.out) hb); have n1_ := Aside0.mk (Kd.R_below (by (with_reducible repeat (first | apply Kd.R_alloc | apply Kd.R_drewN | apply Kd.R_drew)); exact HO_11.out) hb); have n2_ := Aside0.mk (below_step (by repeat (first | (with_reducible first | exact HB.out | apply below_alloc | apply pw_below_drewN | apply below_drew1) | exact HB.out)) hb); clear HO_8; clear HO_11; clear HB; have HO_8 := n0_; have HO_11 := n1_; have HB := n2_; clear n0_ n1_ n2_; (try clear hb); (try clear hb2); (try clear hgn); (try clear hk); (try clear hi))
                                    go_wp2_with fail
                                    go_ret
                                    exact ⟨by first | rfl | (simp [errW_none, errW_some] <;> rfl) | (simp only [← hji26, ← hji27]; first | rfl | (simp [errW_none, errW_some] <;> rfl)) | (simp [*, errW_none, errW_some] <;> rfl), by repeat (first | (with_reducible first | exact HB.out | apply below_alloc | apply pw_below_drewN | apply below_drew1) | exact HB.out)⟩
                                  · rw [if_neg c73] at H
                                    have c73b0 : (t227 == 0) = false := beq_eq_false_iff_ne.mpr c73
                                    have c73b1 : (t227 != 0) = true := bne_iff_ne.mpr c73
                                    obtain rfl := Option.some.inj H
                                    go_wp2_with fail
                                    (go_at_call 13; (with_reducible refine (vote_Trips.calls (wrap64 (a0)) _ _ x8_2 t219 _ ?side1 ?side2 A29.out).mono ?_); (case side1 => repeat (first | exact (Kd.R_reads' HO_8.out).2.2 | (with_reducible refine Kd.C_alloc ?_ _) | (with_reducible refine Kd.C_drewN ?_ _) | (with_reducible refine Kd.C_drew ?_))); (case side2 => exact (Kd.R_reads' HO_8.out).2.1); rintro e w83 ⟨rfl, hb⟩; have n0_ := Aside0.mk (Kd.R_below (by (with_reducible repeat (first | apply Kd.R_alloc | apply Kd.R_drewN | apply Kd.R_drew)); exact HO_8.out) hb); have n1_ := Aside0.mk (Kd.R_below (by (with_reducible repeat (first | apply Kd.R_alloc | apply Kd.R_drewN | apply Kd.R_drew)); exact HO_11.out) hb); have n2_ := Aside0.mk (below_step (by repeat (first | (with_reducible first | exact HB.out | apply below_alloc | apply pw_below_drewN | apply below_drew1) | exact HB.out)) hb); clear HO_8; clear HO_11; clear HB; have HO_8 := n0_; have HO_11 := n1_; have HB := n2_; clear n0_ n1_ n2_; (try clear hb); (try clear hb2); (try clear hgn); (try clear hk); (try clear hi); obtain ⟨Ao84, co84, eo84⟩ := Kd.R_slice HO_11.out; subst eo84)
                                    go_wp2_with fail
                                    (go_at_call 13; (with_reducible refine (vote_Trips.calls (wrap64 (a0)) _ _ x11_3 false _ ?side1 ?side2 A61.out).mono ?_); (case side1 => repeat (first | exact (Kd.R_reads' HO_11.out).2.2 | (with_reducible refine Kd.C_alloc ?_ _) | (with_reducible refine Kd.C_drewN ?_ _) | (with_reducible refine Kd.C_drew ?_))); (case side2 => exact (Kd.R_reads' HO_11.out).2.1); rintro e w85 ⟨rfl, hb⟩; have n0_ := Aside0.mk (Kd.R_below (by (with_reducible repeat (first | apply Kd.R_alloc | apply Kd.R_drewN | apply Kd.R_drew)); exact HO_8.out) hb); have n1_ := Aside0.mk (Kd.R_below (by (with_reducible repeat (first | apply Kd.R_alloc | apply Kd.R_drewN | apply Kd.R_drew)); exact HO_11.out) hb); have n2_ := Aside0.mk (below_step (by repeat (first | (with_reducible first | exact HB.out | apply below_alloc | apply pw_below_drewN | apply below_drew1) | exact HB.out)) hb); clear HO_8; clear HO_11; clear HB; have HO_8 := n0_; have HO_11 := n1_; have HB := n2_; clear n0_ n1_ n2_; (try clear hb); (try clear hb2); (try clear hgn); (try clear hk); (try clear hi))
                                    go_wp2_with fail
                                    (go_at_call 13; (refine (vote_Trips.calls (wrap64 (a0)) _ _ ([] : List (S29)) false _ ?side1 ?side2 A66.out).mono ?_); (case side1 => exact Kd.C_nil _ _); (case side2 => exact Nat.le_refl _); rintro e w86 ⟨rfl, hb⟩; have n0_ := Aside0.mk (Kd.R_below (by (with_reducible repeat (first | apply Kd.R_alloc | apply Kd.R_drewN | apply Kd.R_drew)); exact HO_8.out) hb); have n1_ := Aside0.mk (Kd.R_below (by (with_reducible repeat (first | apply Kd.R_alloc | apply Kd.R_drewN | apply Kd.R_drew)); exact HO_11.out) hb); have n2_ := Aside0.mk (below_step (by repeat (first | (with_reducible first | exact HB.out | apply below_alloc | apply pw_below_drewN | apply below_drew1) | exact HB.out)) hb); clear HO_8; clear HO_11; clear HB; have HO_8 := n0_; have HO_11 := n1_; have HB := n2_; clear n0_ n1_ n2_; (try clear hb); (try clear hb2); (try clear hgn); (try clear hk); (try clear hi))
                                    go_wp2_with fail
                                    (go_at_call 11; (with_reducible refine (vote_Need.calls (wrap64 (a0)) _ _ x11_3 t227 _ ?side1 ?side2 A72.out).mono ?_); (case side1 => repeat (first | exact (Kd.R_reads' HO_11.out).2.2 | (with_reducible refine Kd.C_alloc ?_ _) | (with_reducible refine Kd.C_drewN ?_ _) | (with_reducible refine Kd.C_drew ?_))); (case side2 => exact (Kd.R_reads' HO_11.out).2.1); rintro e w87 ⟨rfl, hb⟩; have n0_ := Aside0.mk (Kd.R_below (by (with_reducible repeat (first | apply Kd.R_alloc | apply Kd.R_drewN | apply Kd.R_drew)); exact HO_8.out) hb); have n1_ := Aside0.mk (Kd.R_below (by (with_reducible repeat (first | apply Kd.R_alloc | apply Kd.R_drewN | apply Kd.R_drew)); exact HO_11.out) hb); have n2_ := Aside0.mk (below_step (by repeat (first | (with_reducible first | exact HB.out | apply below_alloc | apply pw_below_drewN | apply below_drew1) | exact HB.out)) hb); clear HO_8; clear HO_11; clear HB; have HO_8 := n0_; have HO_11 := n1_; have HB := n2_; clear n0_ n1_ n2_; (try clear hb); (try clear hb2); (try clear hgn); (try clear hk); (try clear hi))
                                    go_wp2_with fail
                                    go_ret
                                    exact ⟨by first | rfl | (simp [errW_none, errW_some] <;> rfl) | (simp only [← hji26, ← hji27]; first | rfl | (simp [errW_none, errW_some] <;> rfl)) | (simp [*, errW_none, errW_some] <;> rfl), by repeat (first | (with_reducible first | exact HB.out | apply below_alloc | apply pw_below_drewN | apply below_drew1) | exact HB.out)⟩
                            · rw [if_neg c60] at H
                              have c60b0 : (t219 == false) = false := by simpa using c60
                              (try (have c60b1 : decide (t219 = false) = false := by simpa using c60))
                              (try (have c60b2 : (t219 == false) = false := by simpa using c60))
                              (try (have c60b3 : ¬ (t219 = false) := by simpa using c60))
                              clear c60
                              obtain rfl := Option.some.inj H
                              go_wp2_with (first | (go_at_call 13; (with_reducible refine (vote_Trips.calls (wrap64 (a0)) _ _ x8_2 t219 _ ?side1 ?side2 A29.out).mono ?_); (case side1 => repeat (first | exact (Kd.R_reads' HO_8.out).2.2 | (with_reducible refine Kd.C_alloc ?_ _) | (with_reducible refine Kd.C_drewN ?_ _) | (with_reducible refine Kd.C_drew ?_))); (case side2 => exact (Kd.R_reads' HO_8.out).2.1); rintro e w88 ⟨rfl, hb⟩; have n0_ := Aside0.mk (Kd.R_below (by (with_reducible repeat (first | apply Kd.R_alloc | apply Kd.R_drewN | apply Kd.R_drew)); exact HO_8.out) hb); have n1_ := Aside0.mk (Kd.R_below (by (with_reducible repeat (first | apply Kd.R_alloc | apply Kd.R_drewN | apply Kd.R_drew)); exact HO_11.out) hb); have n2_ := Aside0.mk (below_step (by repeat (first | (with_reducible first | exact HB.out | apply below_alloc | apply pw_below_drewN | apply below_drew1) | exact HB.out)) hb); clear HO_8; clear HO_11; clear HB; have HO_8 := n0_; have HO_11 := n1_; have HB := n2_; clear n0_ n1_ n2_; (try clear hb); (try clear hb2); (try clear hgn); (try clear hk); (try clear hi)))
                              go_ret
                              exact ⟨by first | rfl | (simp [errW_none, errW_some] <;> rfl) | (simp only [← hji26, ← hji27]; first | rfl | (simp [errW_none, errW_some] <;> rfl)) | (simp [*, errW_none, errW_some] <;> rfl), by repeat (first | (with_reducible first | exact HB.out | apply below_alloc | apply pw_below_drewN | apply below_drew1) | exact HB.out)⟩
                        · replace c28 := Bool.eq_false_iff.mpr c28
                          subst c28
                          have H1 : (some false) = some r := by rw [if_neg (show ¬ (false = true) by decide)] at H; exact H
                          clear H
                          have H := H1
                          clear H1
                          obtain rfl := Option.some.inj H
                          go_wp2
                          go_ret
                          exact ⟨by first | rfl | (simp [errW_none, errW_some] <;> rfl) | (simp only [← hji26, ← hji27]; first | rfl | (simp [errW_none, errW_some] <;> rfl)) | (simp [*, errW_none, errW_some] <;> rfl), by repeat (first | (with_reducible first | exact HB.out | apply below_alloc | apply pw_below_drewN | apply below_drew1) | exact HB.out)⟩
                · rw [if_neg c13] at H
                  exact absurd H (by simp)
              · rw [if_neg c12] at H
                exact absurd H (by simp)

/-- THE ONE PURE STATEMENT of watchkeeperlaw13_VoteAll: yours. -/
def watchkeeperlaw13_VoteAll.Pure : Prop := ∀ (a0 : Int) (a1 : Int) (a2 : Int), (Lit.int .u8 a0).wf = true → (Lit.int .u8 a1).wf = true → (Lit.int .u8 a2).wf = true → ∃ k, watchkeeperlaw13_VoteAll.f k a0 a1 a2 = some true
theorem watchkeeperlaw13_VoteAll.walk (P : watchkeeperlaw13_VoteAll.Pure) (a0 : Int) (a1 : Int) (a2 : Int) (w : World) (w0 : (Lit.int .u8 a0).wf = true) (w1 : (Lit.int .u8 a1).wf = true) (w2 : (Lit.int .u8 a2).wf = true) :
    Calls Try.prog 6 #[.int .u8 a0, .int .u8 a1, .int .u8 a2] w fun e w' => e = .returned (.bool true) ∧ Below w.heap.size w w' := by
  obtain ⟨k, h⟩ := P a0 a1 a2 w0 w1 w2
  refine (watchkeeperlaw13_VoteAll.calls k a0 a1 a2 true w h).mono ?_
  rintro e w' ⟨rfl, hd⟩
  exact ⟨rfl, hd⟩

end Go.Proofs.Ythhgomobjcpdoaa.QA
