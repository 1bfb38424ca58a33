-- Laid by wip/tools/pr.py (a program of this session's) over the kit's printer. Not trusted: Lean checks it.
import Derived.Test.YtljabocijojceaaQA0
import Derived.Test.YtljabocijojceaaQA1
namespace Go.Proofs.Ytljabocijojceaa.QA
open Go.RowKit Go.Proofs.YtljabocijojceaaW.PrintWords Go.Proofs.YtljabocijojceaaW.PrintLast Go.Proofs.YtljabocijojceaaW.PrintMore
attribute [local go_sem] max2_int min2_int max_two min_two max_three min_three max_four min_four   -- for this text's walks alone
set_option linter.unusedVariables false
set_option linter.unusedSimpArgs false

/-! ### watchkeeperref12_Delay_See: function 12 -/
def watchkeeperref12_Delay_See.j0 : Nat → Bool → Int → Int → Int → Bool → Bool → Int → Int → Option (Bool × Int × Int × Bool × Bool × Int × Int)
  | 0, _, _, _, _, _, _, _, _ => none
  | k + 1, x1, x2, x1000, x1001, x1002, x1003, x1004, x1005 => if x1 = true then (if (wrap64 (x2 - x1004)) ≥ x1000 then (some (x1, x1000, x1001, x1, false, x1004, x1005)) else (some (x1002, x1000, x1001, x1002, x1003, x1004, x1005))) else (if (wrap64 (x2 - x1004)) ≥ x1001 then (some (x1, x1000, x1001, x1, false, x1004, x1005)) else (some (x1002, x1000, x1001, x1002, x1003, x1004, x1005)))
def watchkeeperref12_Delay_See.f (k : Nat) (s0_0 : Int) (s0_1 : Int) (s0_2 : Bool) (s0_3 : Bool) (s0_4 : Int) (s0_5 : Int) (a1 : Bool) (a2 : Int) : Option (Bool × Int × Int × Bool × Bool × Int × Int) := (watchkeeperref12_clamp.f a2 s0_5).bind fun t181 => (if (a1 == s0_2) = true then (some (s0_2, s0_0, s0_1, s0_2, false, s0_4, t181)) else (if s0_3 = true then (watchkeeperref12_Delay_See.j0 k a1 t181 s0_0 s0_1 s0_2 s0_3 s0_4 t181) else (watchkeeperref12_Delay_See.j0 k a1 t181 s0_0 s0_1 s0_2 true t181 t181)))
theorem watchkeeperref12_Delay_See.mono_l : ∀ k, (∀ y0 y1 y2 y3 y4 y5 y6 y7, LeO (watchkeeperref12_Delay_See.j0 k y0 y1 y2 y3 y4 y5 y6 y7) (watchkeeperref12_Delay_See.j0 (k + 1) y0 y1 y2 y3 y4 y5 y6 y7))
  | 0 => fun _ _ _ _ _ _ _ _ r h => by simp [watchkeeperref12_Delay_See.j0] at h
  | k + 1 => by
    have ih0 := watchkeeperref12_Delay_See.mono_l k
    · intro y0 y1 y2 y3 y4 y5 y6 y7
      unfold watchkeeperref12_Delay_See.j0
      repeat' first
      | (with_reducible exact ih0 _ _ _ _ _ _ _ _)
      | (with_reducible exact LeO.refl _)
      | (with_reducible exact LeO.none _)
      | (with_reducible refine LeO.ite ?_ ?_)
      | (with_reducible refine LeO.bind ?_ (fun _ => ?_))
      | exact ih0 _ _ _ _ _ _ _ _
      | exact LeO.none _
      | refine LeO.ite ?_ ?_
      | refine LeO.bind ?_ (fun _ => ?_)
theorem watchkeeperref12_Delay_See.mono : ∀ a0 a1 a2 a3 a4 a5 a6 a7 k, LeO (watchkeeperref12_Delay_See.f k a0 a1 a2 a3 a4 a5 a6 a7) (watchkeeperref12_Delay_See.f (k + 1) a0 a1 a2 a3 a4 a5 a6 a7) := by
  intro a0 a1 a2 a3 a4 a5 a6 a7 k
  have ih0 := watchkeeperref12_Delay_See.mono_l k
  unfold watchkeeperref12_Delay_See.f
  repeat' first
      | (with_reducible exact ih0 _ _ _ _ _ _ _ _)
      | (with_reducible exact LeO.refl _)
      | (with_reducible exact LeO.none _)
      | (with_reducible refine LeO.ite ?_ ?_)
      | (with_reducible refine LeO.bind ?_ (fun _ => ?_))
      | exact ih0 _ _ _ _ _ _ _ _
      | exact LeO.none _
      | refine LeO.ite ?_ ?_
      | refine LeO.bind ?_ (fun _ => ?_)
set_option maxHeartbeats 8000000 in
set_option maxRecDepth 100000 in
theorem watchkeeperref12_Delay_See.calls (k : Nat) (g : Nat) (s0_0 : Int) (s0_1 : Int) (s0_2 : Bool) (s0_3 : Bool) (s0_4 : Int) (s0_5 : Int) (a1 : Bool) (a2 : Int) (r1 : Bool) (r2 : Int) (r3 : Int) (r4 : Bool) (r5 : Bool) (r6 : Int) (r7 : Int) (w0 w : World) (hI : IsS47 w0 w g s0_0 s0_1 s0_2 s0_3 s0_4 s0_5) (hB : Below w0.heap.size w0 w) (h : watchkeeperref12_Delay_See.f k s0_0 s0_1 s0_2 s0_3 s0_4 s0_5 a1 a2 = some (r1, r2, r3, r4, r5, r6, r7)) :
    Calls Try.prog 12 #[.pointer (some ⟨g, 0, none⟩), .bool a1, .int .i64 a2] w fun e w' => e = .returned (.bool r1) ∧ IsS47 w0 w' g r2 r3 r4 r5 r6 r7 ∧ Below w0.heap.size w0 w' ∧ KeepBut w w' g none := by
  have HI0 := Aside0.mk hI
  have HK := Aside0.mk (KeepBut.refl w g none)
  have HL := Aside0.mk hB.size
  clear hI
  have HW0 := Aside0.mk hB.size
  have HB := Aside0.mk hB
  clear hB
  have H : ((watchkeeperref12_clamp.f a2 s0_5).bind fun t181 => (if (a1 == s0_2) = true then (some (s0_2, s0_0, s0_1, s0_2, false, s0_4, t181)) else (if s0_3 = true then (watchkeeperref12_Delay_See.j0 k a1 t181 s0_0 s0_1 s0_2 s0_3 s0_4 t181) else (watchkeeperref12_Delay_See.j0 k a1 t181 s0_0 s0_1 s0_2 true t181 t181)))) = some (r1, r2, r3, r4, r5, r6, r7) := h
  clear h
  replace H := Option.bind_eq_some_iff.mp H
  obtain ⟨t181, A40, H⟩ := H
  replace H : (if (a1 == s0_2) = true then (some (s0_2, s0_0, s0_1, s0_2, false, s0_4, t181)) else (if s0_3 = true then (watchkeeperref12_Delay_See.j0 k a1 t181 s0_0 s0_1 s0_2 s0_3 s0_4 t181) else (watchkeeperref12_Delay_See.j0 k a1 t181 s0_0 s0_1 s0_2 true t181 t181))) = some (r1, r2, r3, r4, r5, r6, r7) := H
  have A4 := Aside0.mk A40
  clear A40
  by_cases c5 : (a1 == s0_2) = true
  · rw [if_pos c5] at H
    have c5b0 : (a1 == s0_2) = true := c5
    (try (have c5b1 : decide (a1 = s0_2) = true := by simpa using c5))
    (try (have c5b2 : (a1 == s0_2) = true := by simpa using c5))
    clear c5
    simp only [Option.some.injEq, Prod.mk.injEq] at H
    obtain ⟨rfl, rfl, rfl, rfl, rfl, rfl, rfl⟩ := H
    obtain ⟨HGz6, hgz6⟩ := HI0.out
    have hcz6_0 := cellS47_0 HGz6
    have hcz6_1 := cellS47_1 HGz6
    have hcz6_2 := cellS47_2 HGz6
    have hcz6_3 := cellS47_3 HGz6
    have hcz6_4 := cellS47_4 HGz6
    have hcz6_5 := cellS47_5 HGz6
    have hfz6_0 := blk_frozen HGz6 0
    have hfz6_1 := blk_frozen HGz6 1
    have hfz6_2 := blk_frozen HGz6 2
    have hfz6_3 := blk_frozen HGz6 3
    have hfz6_4 := blk_frozen HGz6 4
    have hfz6_5 := blk_frozen HGz6 5
    clear HGz6 hgz6
    go_enter Try.func12, Try.ntmps12
    go_wp2_with (first | ((with_reducible refine gate_callee (f := 17) rfl ?_); refine goesL_ (some 13) rfl rfl Try.func17 (by kernel_rfl) rfl #[.int .i64 a2, .int .i64 s0_5] rfl (by (try simp only [List.map_toArray, List.map_cons, List.map_nil]); first | done | rfl | (simp only [List.length_drop, List.length_take]; rfl)) ?_; (with_reducible refine (watchkeeperref12_clamp.calls a2 s0_5 t181 _ A4.out).mono ?_); rintro e w7 ⟨rfl, hb⟩; refine ⟨_, rfl, ?_⟩; have n0_ := Aside0.mk (IsS47.below (by repeat (first | (with_reducible first | exact HI0.out | apply IsS47.alloc | apply IsS47.drewN | apply IsS47.drew | apply IsS47.set_0 | apply IsS47.set_1 | apply IsS47.set_2 | apply IsS47.set_3 | apply IsS47.set_4 | apply IsS47.set_5) | exact HI0.out)) hb); have n1_ := Aside0.mk (KeepBut.trans (by repeat (first | (with_reducible first | exact HK.out | apply KeepBut.set_ | apply keep_drewN | apply keep_drew | apply keep_alloc) | exact HK.out)) (KeepBut.of_below hb g none) (.inl rfl)); have n2_ := Aside0.mk (below_step (by repeat (first | (with_reducible first | exact HB.out | apply below_alloc | apply pw_below_drewN | apply below_drew1 | refine below_set ?_ (IsS47.ge HI0.out)) | exact HB.out)) hb); clear HI0; clear HK; clear HB; have HI0 := n0_; have HK := n1_; have HB := n2_; clear n0_ n1_ n2_; (try clear hb); (try clear hb2); (try clear hgn); (try clear hk); (try clear hi); obtain ⟨HGz8, hgz8⟩ := HI0.out; have hcz8_0 := cellS47_0 HGz8; have hcz8_1 := cellS47_1 HGz8; have hcz8_2 := cellS47_2 HGz8; have hcz8_3 := cellS47_3 HGz8; have hcz8_4 := cellS47_4 HGz8; have hcz8_5 := cellS47_5 HGz8; have hfz8_0 := blk_frozen HGz8 0; have hfz8_1 := blk_frozen HGz8 1; have hfz8_2 := blk_frozen HGz8 2; have hfz8_3 := blk_frozen HGz8 3; have hfz8_4 := blk_frozen HGz8 4; have hfz8_5 := blk_frozen HGz8 5; clear HGz8 hgz8))
    go_ret
    exact ⟨by first | rfl | (simp [errW_none, errW_some] <;> rfl) | (simp [*, errW_none, errW_some] <;> rfl), by repeat (first | (with_reducible first | exact HI0.out | apply IsS47.alloc | apply IsS47.drewN | apply IsS47.drew | apply IsS47.set_0 | apply IsS47.set_1 | apply IsS47.set_2 | apply IsS47.set_3 | apply IsS47.set_4 | apply IsS47.set_5) | exact HI0.out), by repeat (first | (with_reducible first | exact HB.out | apply below_alloc | apply pw_below_drewN | apply below_drew1 | refine below_set ?_ (IsS47.ge HI0.out)) | exact HB.out), by repeat (first | (with_reducible first | exact HK.out | apply KeepBut.set_ | apply keep_drewN | apply keep_drew | apply keep_alloc) | exact HK.out)⟩
  · rw [if_neg c5] at H
    have c5b0 : (a1 == s0_2) = false := by simpa using c5
    (try (have c5b1 : decide (a1 = s0_2) = false := by simpa using c5))
    (try (have c5b2 : (a1 == s0_2) = false := by simpa using c5))
    (try (have c5b3 : ¬ (a1 = s0_2) := by simpa using c5))
    clear c5
    have HC9 := Aside0.mk H
    clear H
    obtain ⟨HGz10, hgz10⟩ := HI0.out
    have hcz10_0 := cellS47_0 HGz10
    have hcz10_1 := cellS47_1 HGz10
    have hcz10_2 := cellS47_2 HGz10
    have hcz10_3 := cellS47_3 HGz10
    have hcz10_4 := cellS47_4 HGz10
    have hcz10_5 := cellS47_5 HGz10
    have hfz10_0 := blk_frozen HGz10 0
    have hfz10_1 := blk_frozen HGz10 1
    have hfz10_2 := blk_frozen HGz10 2
    have hfz10_3 := blk_frozen HGz10 3
    have hfz10_4 := blk_frozen HGz10 4
    have hfz10_5 := blk_frozen HGz10 5
    clear HGz10 hgz10
    go_enter Try.func12, Try.ntmps12
    go_upto_if 35 with (first | ((with_reducible refine gate_callee (f := 17) rfl ?_); refine goesL_ (some 13) rfl rfl Try.func17 (by kernel_rfl) rfl #[.int .i64 a2, .int .i64 s0_5] rfl (by (try simp only [List.map_toArray, List.map_cons, List.map_nil]); first | done | rfl | (simp only [List.length_drop, List.length_take]; rfl)) ?_; (with_reducible refine (watchkeeperref12_clamp.calls a2 s0_5 t181 _ A4.out).mono ?_); rintro e w11 ⟨rfl, hb⟩; refine ⟨_, rfl, ?_⟩; have n0_ := Aside0.mk (IsS47.below (by repeat (first | (with_reducible first | exact HI0.out | apply IsS47.alloc | apply IsS47.drewN | apply IsS47.drew | apply IsS47.set_0 | apply IsS47.set_1 | apply IsS47.set_2 | apply IsS47.set_3 | apply IsS47.set_4 | apply IsS47.set_5) | exact HI0.out)) hb); have n1_ := Aside0.mk (KeepBut.trans (by repeat (first | (with_reducible first | exact HK.out | apply KeepBut.set_ | apply keep_drewN | apply keep_drew | apply keep_alloc) | exact HK.out)) (KeepBut.of_below hb g none) (.inl rfl)); have n2_ := Aside0.mk (below_step (by repeat (first | (with_reducible first | exact HB.out | apply below_alloc | apply pw_below_drewN | apply below_drew1 | refine below_set ?_ (IsS47.ge HI0.out)) | exact HB.out)) hb); clear HI0; clear HK; clear HB; have HI0 := n0_; have HK := n1_; have HB := n2_; clear n0_ n1_ n2_; (try clear hb); (try clear hb2); (try clear hgn); (try clear hk); (try clear hi); obtain ⟨HGz12, hgz12⟩ := HI0.out; have hcz12_0 := cellS47_0 HGz12; have hcz12_1 := cellS47_1 HGz12; have hcz12_2 := cellS47_2 HGz12; have hcz12_3 := cellS47_3 HGz12; have hcz12_4 := cellS47_4 HGz12; have hcz12_5 := cellS47_5 HGz12; have hfz12_0 := blk_frozen HGz12 0; have hfz12_1 := blk_frozen HGz12 1; have hfz12_2 := blk_frozen HGz12 2; have hfz12_3 := blk_frozen HGz12 3; have hfz12_4 := blk_frozen HGz12 4; have hfz12_5 := blk_frozen HGz12 5; clear HGz12 hgz12))
    (try simp only [Act.put, List.setIfInBounds_toArray, List.set_cons_zero, List.set_cons_succ])
    go_cut [] (fun wc => ∃ (kq : Nat) (x1003_8 : Bool) (x1004_8 : Int), Aside0 (watchkeeperref12_Delay_See.j0 kq a1 t181 s0_0 s0_1 s0_2 x1003_8 x1004_8 t181 = some (r1, r2, r3, r4, r5, r6, r7)) ∧ Aside0 (kq ≤ k) ∧ Aside0 (IsS47 w0 wc g s0_0 s0_1 s0_2 x1003_8 x1004_8 t181) ∧ Aside0 (KeepBut w wc g none) ∧ Aside0 (Below w0.heap.size w0 wc))
    case first =>
      have H := HC9.out
      clear HC9
      by_cases c13 : s0_3 = true
      · subst c13
        have H1 : (watchkeeperref12_Delay_See.j0 k a1 t181 s0_0 s0_1 s0_2 true s0_4 t181) = some (r1, r2, r3, r4, r5, r6, r7) := by rw [if_pos rfl] at H; exact H
        clear H
        have H := H1
        clear H1
        have H' := Aside0.mk H
        clear H
        go_wp2
        go_meet
        case rel => exact ⟨_, (true), (s0_4), H', ⟨by first | omega | exact Nat.le_refl _⟩, ⟨by repeat (first | (with_reducible first | exact HI0.out | apply IsS47.alloc | apply IsS47.drewN | apply IsS47.drew | apply IsS47.set_0 | apply IsS47.set_1 | apply IsS47.set_2 | apply IsS47.set_3 | apply IsS47.set_4 | apply IsS47.set_5) | exact HI0.out)⟩, ⟨by repeat (first | (with_reducible first | exact HK.out | apply KeepBut.set_ | apply keep_drewN | apply keep_drew | apply keep_alloc) | exact HK.out)⟩, ⟨by repeat (first | (with_reducible first | exact HB.out | apply below_alloc | apply pw_below_drewN | apply below_drew1 | refine below_set ?_ (IsS47.ge HI0.out)) | exact HB.out)⟩⟩
      · replace c13 := Bool.eq_false_iff.mpr c13
        subst c13
        have H1 : (watchkeeperref12_Delay_See.j0 k a1 t181 s0_0 s0_1 s0_2 true t181 t181) = some (r1, r2, r3, r4, r5, r6, r7) := by rw [if_neg (show ¬ (false = true) by decide)] at H; exact H
        clear H
        have H := H1
        clear H1
        have H' := Aside0.mk H
        clear H
        obtain ⟨HGz14, hgz14⟩ := HI0.out
        have hcz14_0 := cellS47_0 HGz14
        have hcz14_1 := cellS47_1 HGz14
        have hcz14_2 := cellS47_2 HGz14
        have hcz14_3 := cellS47_3 HGz14
        have hcz14_4 := cellS47_4 HGz14
        have hcz14_5 := cellS47_5 HGz14
        have hfz14_0 := blk_frozen HGz14 0
        have hfz14_1 := blk_frozen HGz14 1
        have hfz14_2 := blk_frozen HGz14 2
        have hfz14_3 := blk_frozen HGz14 3
        have hfz14_4 := blk_frozen HGz14 4
        have hfz14_5 := blk_frozen HGz14 5
        clear HGz14 hgz14
        go_wp2
        go_meet
        case rel => exact ⟨_, (true), (t181), H', ⟨by first | omega | exact Nat.le_refl _⟩, ⟨by repeat (first | (with_reducible first | exact HI0.out | apply IsS47.alloc | apply IsS47.drewN | apply IsS47.drew | apply IsS47.set_0 | apply IsS47.set_1 | apply IsS47.set_2 | apply IsS47.set_3 | apply IsS47.set_4 | apply IsS47.set_5) | exact HI0.out)⟩, ⟨by repeat (first | (with_reducible first | exact HK.out | apply KeepBut.set_ | apply keep_drewN | apply keep_drew | apply keep_alloc) | exact HK.out)⟩, ⟨by repeat (first | (with_reducible first | exact HB.out | apply below_alloc | apply pw_below_drewN | apply below_drew1 | refine below_set ?_ (IsS47.ge HI0.out)) | exact HB.out)⟩⟩
    case rest =>
      clear HC9
      try clear c1
      try clear p2
      try clear c5
      try clear c5b0
      try clear c5b1
      try clear c5b2
      try clear c12
      try clear c13
      try clear hcz10_0
      try clear hcz10_1
      try clear hcz10_2
      try clear hcz10_3
      try clear hcz10_4
      try clear hcz10_5
      try clear hcz12_0
      try clear hcz12_1
      try clear hcz12_2
      try clear hcz12_3
      try clear hcz12_4
      try clear hcz12_5
      try clear hcz14_0
      try clear hcz14_1
      try clear hcz14_2
      try clear hcz14_3
      try clear hcz14_4
      try clear hcz14_5
      try clear hcz6_0
      try clear hcz6_1
      try clear hcz6_2
      try clear hcz6_3
      try clear hcz6_4
      try clear hcz6_5
      try clear hcz8_0
      try clear hcz8_1
      try clear hcz8_2
      try clear hcz8_3
      try clear hcz8_4
      try clear hcz8_5
      try clear hfz10_0
      try clear hfz10_1
      try clear hfz10_2
      try clear hfz10_3
      try clear hfz10_4
      try clear hfz10_5
      try clear hfz12_0
      try clear hfz12_1
      try clear hfz12_2
      try clear hfz12_3
      try clear hfz12_4
      try clear hfz12_5
      try clear hfz14_0
      try clear hfz14_1
      try clear hfz14_2
      try clear hfz14_3
      try clear hfz14_4
      try clear hfz14_5
      try clear hfz6_0
      try clear hfz6_1
      try clear hfz6_2
      try clear hfz6_3
      try clear hfz6_4
      try clear hfz6_5
      try clear hfz8_0
      try clear hfz8_1
      try clear hfz8_2
      try clear hfz8_3
      try clear hfz8_4
      try clear hfz8_5
      obtain ⟨kq, x1003_8, x1004_8, HA, HJ8, HI0, HK, HB⟩ := hcut
      cases kq with
      | zero => exact absurd HA.out (by simp [watchkeeperref12_Delay_See.j0])
      | succ kj8 =>
        have H := HA.out
        clear HA
        simp only [watchkeeperref12_Delay_See.j0] at H
        by_cases c15 : a1 = true
        · subst c15
          have H1 : (if (wrap64 (t181 - x1004_8)) ≥ s0_0 then (some (true, s0_0, s0_1, true, false, x1004_8, t181)) else (some (s0_2, s0_0, s0_1, s0_2, x1003_8, x1004_8, t181))) = some (r1, r2, r3, r4, r5, r6, r7) := by rw [if_pos rfl] at H; exact H
          clear H
          have H := H1
          clear H1
          by_cases c16 : (wrap64 (t181 - x1004_8)) ≥ s0_0
          · rw [if_pos c16] at H
            have c16b0 : decide (s0_0 ≤ (wrap64 (t181 - x1004_8))) = true := decide_eq_true c16
            clear c16
            simp only [Option.some.injEq, Prod.mk.injEq] at H
            obtain ⟨rfl, rfl, rfl, rfl, rfl, rfl, rfl⟩ := H
            obtain ⟨HGz17, hgz17⟩ := HI0.out
            have hcz17_0 := cellS47_0 HGz17
            have hcz17_1 := cellS47_1 HGz17
            have hcz17_2 := cellS47_2 HGz17
            have hcz17_3 := cellS47_3 HGz17
            have hcz17_4 := cellS47_4 HGz17
            have hcz17_5 := cellS47_5 HGz17
            have hfz17_0 := blk_frozen HGz17 0
            have hfz17_1 := blk_frozen HGz17 1
            have hfz17_2 := blk_frozen HGz17 2
            have hfz17_3 := blk_frozen HGz17 3
            have hfz17_4 := blk_frozen HGz17 4
            have hfz17_5 := blk_frozen HGz17 5
            clear HGz17 hgz17
            go_wp2
            go_ret
            exact ⟨by first | rfl | (simp [errW_none, errW_some] <;> rfl) | (simp [*, errW_none, errW_some] <;> rfl), by repeat (first | (with_reducible first | exact HI0.out | apply IsS47.alloc | apply IsS47.drewN | apply IsS47.drew | apply IsS47.set_0 | apply IsS47.set_1 | apply IsS47.set_2 | apply IsS47.set_3 | apply IsS47.set_4 | apply IsS47.set_5) | exact HI0.out), by repeat (first | (with_reducible first | exact HB.out | apply below_alloc | apply pw_below_drewN | apply below_drew1 | refine below_set ?_ (IsS47.ge HI0.out)) | exact HB.out), by repeat (first | (with_reducible first | exact HK.out | apply KeepBut.set_ | apply keep_drewN | apply keep_drew | apply keep_alloc) | exact HK.out)⟩
          · rw [if_neg c16] at H
            have c16b0 : decide (s0_0 ≤ (wrap64 (t181 - x1004_8))) = false := decide_eq_false c16
            clear c16
            simp only [Option.some.injEq, Prod.mk.injEq] at H
            obtain ⟨rfl, rfl, rfl, rfl, rfl, rfl, rfl⟩ := H
            obtain ⟨HGz18, hgz18⟩ := HI0.out
            have hcz18_0 := cellS47_0 HGz18
            have hcz18_1 := cellS47_1 HGz18
            have hcz18_2 := cellS47_2 HGz18
            have hcz18_3 := cellS47_3 HGz18
            have hcz18_4 := cellS47_4 HGz18
            have hcz18_5 := cellS47_5 HGz18
            have hfz18_0 := blk_frozen HGz18 0
            have hfz18_1 := blk_frozen HGz18 1
            have hfz18_2 := blk_frozen HGz18 2
            have hfz18_3 := blk_frozen HGz18 3
            have hfz18_4 := blk_frozen HGz18 4
            have hfz18_5 := blk_frozen HGz18 5
            clear HGz18 hgz18
            go_wp2
            go_ret
            exact ⟨by first | rfl | (simp [errW_none, errW_some] <;> rfl) | (simp [*, errW_none, errW_some] <;> rfl), by repeat (first | (with_reducible first | exact HI0.out | apply IsS47.alloc | apply IsS47.drewN | apply IsS47.drew | apply IsS47.set_0 | apply IsS47.set_1 | apply IsS47.set_2 | apply IsS47.set_3 | apply IsS47.set_4 | apply IsS47.set_5) | exact HI0.out), by repeat (first | (with_reducible first | exact HB.out | apply below_alloc | apply pw_below_drewN | apply below_drew1 | refine below_set ?_ (IsS47.ge HI0.out)) | exact HB.out), by repeat (first | (with_reducible first | exact HK.out | apply KeepBut.set_ | apply keep_drewN | apply keep_drew | apply keep_alloc) | exact HK.out)⟩
        · replace c15 := Bool.eq_false_iff.mpr c15
          subst c15
          have H1 : (if (wrap64 (t181 - x1004_8)) ≥ s0_1 then (some (false, s0_0, s0_1, false, false, x1004_8, t181)) else (some (s0_2, s0_0, s0_1, s0_2, x1003_8, x1004_8, t181))) = some (r1, r2, r3, r4, r5, r6, r7) := by rw [if_neg (show ¬ (false = true) by decide)] at H; exact H
          clear H
          have H := H1
          clear H1
          by_cases c19 : (wrap64 (t181 - x1004_8)) ≥ s0_1
          · rw [if_pos c19] at H
            have c19b0 : decide (s0_1 ≤ (wrap64 (t181 - x1004_8))) = true := decide_eq_true c19
            clear c19
            simp only [Option.some.injEq, Prod.mk.injEq] at H
            obtain ⟨rfl, rfl, rfl, rfl, rfl, rfl, rfl⟩ := H
            obtain ⟨HGz20, hgz20⟩ := HI0.out
            have hcz20_0 := cellS47_0 HGz20
            have hcz20_1 := cellS47_1 HGz20
            have hcz20_2 := cellS47_2 HGz20
            have hcz20_3 := cellS47_3 HGz20
            have hcz20_4 := cellS47_4 HGz20
            have hcz20_5 := cellS47_5 HGz20
            have hfz20_0 := blk_frozen HGz20 0
            have hfz20_1 := blk_frozen HGz20 1
            have hfz20_2 := blk_frozen HGz20 2
            have hfz20_3 := blk_frozen HGz20 3
            have hfz20_4 := blk_frozen HGz20 4
            have hfz20_5 := blk_frozen HGz20 5
            clear HGz20 hgz20
            go_wp2
            go_ret
            exact ⟨by first | rfl | (simp [errW_none, errW_some] <;> rfl) | (simp [*, errW_none, errW_some] <;> rfl), by repeat (first | (with_reducible first | exact HI0.out | apply IsS47.alloc | apply IsS47.drewN | apply IsS47.drew | apply IsS47.set_0 | apply IsS47.set_1 | apply IsS47.set_2 | apply IsS47.set_3 | apply IsS47.set_4 | apply IsS47.set_5) | exact HI0.out), by repeat (first | (with_reducible first | exact HB.out | apply below_alloc | apply pw_below_drewN | apply below_drew1 | refine below_set ?_ (IsS47.ge HI0.out)) | exact HB.out), by repeat (first | (with_reducible first | exact HK.out | apply KeepBut.set_ | apply keep_drewN | apply keep_drew | apply keep_alloc) | exact HK.out)⟩
          · rw [if_neg c19] at H
            have c19b0 : decide (s0_1 ≤ (wrap64 (t181 - x1004_8))) = false := decide_eq_false c19
            clear c19
            simp only [Option.some.injEq, Prod.mk.injEq] at H
            obtain ⟨rfl, rfl, rfl, rfl, rfl, rfl, rfl⟩ := H
            obtain ⟨HGz21, hgz21⟩ := HI0.out
            have hcz21_0 := cellS47_0 HGz21
            have hcz21_1 := cellS47_1 HGz21
            have hcz21_2 := cellS47_2 HGz21
            have hcz21_3 := cellS47_3 HGz21
            have hcz21_4 := cellS47_4 HGz21
            have hcz21_5 := cellS47_5 HGz21
            have hfz21_0 := blk_frozen HGz21 0
            have hfz21_1 := blk_frozen HGz21 1
            have hfz21_2 := blk_frozen HGz21 2
            have hfz21_3 := blk_frozen HGz21 3
            have hfz21_4 := blk_frozen HGz21 4
            have hfz21_5 := blk_frozen HGz21 5
            clear HGz21 hgz21
            go_wp2
            go_ret
            exact ⟨by first | rfl | (simp [errW_none, errW_some] <;> rfl) | (simp [*, errW_none, errW_some] <;> rfl), by repeat (first | (with_reducible first | exact HI0.out | apply IsS47.alloc | apply IsS47.drewN | apply IsS47.drew | apply IsS47.set_0 | apply IsS47.set_1 | apply IsS47.set_2 | apply IsS47.set_3 | apply IsS47.set_4 | apply IsS47.set_5) | exact HI0.out), by repeat (first | (with_reducible first | exact HB.out | apply below_alloc | apply pw_below_drewN | apply below_drew1 | refine below_set ?_ (IsS47.ge HI0.out)) | exact HB.out), by repeat (first | (with_reducible first | exact HK.out | apply KeepBut.set_ | apply keep_drewN | apply keep_drew | apply keep_alloc) | exact HK.out)⟩

/-! ### watchkeeperref12_Delay_Since: function 14 -/
def watchkeeperref12_Delay_Since.f (s0_0 : Int) (s0_1 : Int) (s0_2 : Bool) (s0_3 : Bool) (s0_4 : Int) (s0_5 : Int) : Option (Int × Bool × Int × Int × Bool × Bool × Int × Int) := if s0_3 = true then (some (s0_4, true, s0_0, s0_1, s0_2, s0_3, s0_4, s0_5)) else (some (0, false, s0_0, s0_1, s0_2, s0_3, s0_4, s0_5))
set_option maxHeartbeats 8000000 in
set_option maxRecDepth 100000 in
theorem watchkeeperref12_Delay_Since.calls (g : Nat) (s0_0 : Int) (s0_1 : Int) (s0_2 : Bool) (s0_3 : Bool) (s0_4 : Int) (s0_5 : Int) (r1 : Int) (r2 : Bool) (r3 : Int) (r4 : Int) (r5 : Bool) (r6 : Bool) (r7 : Int) (r8 : Int) (w0 w : World) (hI : IsS47 w0 w g s0_0 s0_1 s0_2 s0_3 s0_4 s0_5) (hB : Below w0.heap.size w0 w) (h : watchkeeperref12_Delay_Since.f s0_0 s0_1 s0_2 s0_3 s0_4 s0_5 = some (r1, r2, r3, r4, r5, r6, r7, r8)) :
    Calls Try.prog 14 #[.pointer (some ⟨g, 0, none⟩)] w fun e w' => e = .returned (.tuple #[.int .i64 r1, .bool r2]) ∧ IsS47 w0 w' g r3 r4 r5 r6 r7 r8 ∧ Below w0.heap.size w0 w' ∧ KeepBut w w' g none := by
  have HI0 := Aside0.mk hI
  have HK := Aside0.mk (KeepBut.refl w g none)
  have HL := Aside0.mk hB.size
  clear hI
  have HW0 := Aside0.mk hB.size
  have HB := Aside0.mk hB
  clear hB
  have H : (if s0_3 = true then (some (s0_4, true, s0_0, s0_1, s0_2, s0_3, s0_4, s0_5)) else (some (0, false, s0_0, s0_1, s0_2, s0_3, s0_4, s0_5))) = some (r1, r2, r3, r4, r5, r6, r7, r8) := h
  clear h
  by_cases c2 : s0_3 = true
  · subst c2
    have H1 : (some (s0_4, true, s0_0, s0_1, s0_2, true, s0_4, s0_5)) = some (r1, r2, r3, r4, r5, r6, r7, r8) := by rw [if_pos rfl] at H; exact H
    clear H
    have H := H1
    clear H1
    simp only [Option.some.injEq, Prod.mk.injEq] at H
    obtain ⟨rfl, rfl, rfl, rfl, rfl, rfl, rfl, rfl⟩ := H
    obtain ⟨HGz3, hgz3⟩ := HI0.out
    have hcz3_0 := cellS47_0 HGz3
    have hcz3_1 := cellS47_1 HGz3
    have hcz3_2 := cellS47_2 HGz3
    have hcz3_3 := cellS47_3 HGz3
    have hcz3_4 := cellS47_4 HGz3
    have hcz3_5 := cellS47_5 HGz3
    have hfz3_0 := blk_frozen HGz3 0
    have hfz3_1 := blk_frozen HGz3 1
    have hfz3_2 := blk_frozen HGz3 2
    have hfz3_3 := blk_frozen HGz3 3
    have hfz3_4 := blk_frozen HGz3 4
    have hfz3_5 := blk_frozen HGz3 5
    clear HGz3 hgz3
    go_enter Try.func14, Try.ntmps14
    go_wp2
    go_ret2
    exact ⟨by first | rfl | (simp [errW_none, errW_some] <;> rfl) | (simp [*, errW_none, errW_some] <;> rfl), by repeat (first | (with_reducible first | exact HI0.out | apply IsS47.alloc | apply IsS47.drewN | apply IsS47.drew | apply IsS47.set_0 | apply IsS47.set_1 | apply IsS47.set_2 | apply IsS47.set_3 | apply IsS47.set_4 | apply IsS47.set_5) | exact HI0.out), by repeat (first | (with_reducible first | exact HB.out | apply below_alloc | apply pw_below_drewN | apply below_drew1 | refine below_set ?_ (IsS47.ge HI0.out)) | exact HB.out), by repeat (first | (with_reducible first | exact HK.out | apply KeepBut.set_ | apply keep_drewN | apply keep_drew | apply keep_alloc) | exact HK.out)⟩
  · replace c2 := Bool.eq_false_iff.mpr c2
    subst c2
    have H1 : (some (0, false, s0_0, s0_1, s0_2, false, s0_4, s0_5)) = some (r1, r2, r3, r4, r5, r6, r7, r8) := by rw [if_neg (show ¬ (false = true) by decide)] at H; exact H
    clear H
    have H := H1
    clear H1
    simp only [Option.some.injEq, Prod.mk.injEq] at H
    obtain ⟨rfl, rfl, rfl, rfl, rfl, rfl, rfl, rfl⟩ := H
    obtain ⟨HGz4, hgz4⟩ := HI0.out
    have hcz4_0 := cellS47_0 HGz4
    have hcz4_1 := cellS47_1 HGz4
    have hcz4_2 := cellS47_2 HGz4
    have hcz4_3 := cellS47_3 HGz4
    have hcz4_4 := cellS47_4 HGz4
    have hcz4_5 := cellS47_5 HGz4
    have hfz4_0 := blk_frozen HGz4 0
    have hfz4_1 := blk_frozen HGz4 1
    have hfz4_2 := blk_frozen HGz4 2
    have hfz4_3 := blk_frozen HGz4 3
    have hfz4_4 := blk_frozen HGz4 4
    have hfz4_5 := blk_frozen HGz4 5
    clear HGz4 hgz4
    go_enter Try.func14, Try.ntmps14
    go_wp2
    go_ret2
    exact ⟨by first | rfl | (simp [errW_none, errW_some] <;> rfl) | (simp [*, errW_none, errW_some] <;> rfl), by repeat (first | (with_reducible first | exact HI0.out | apply IsS47.alloc | apply IsS47.drewN | apply IsS47.drew | apply IsS47.set_0 | apply IsS47.set_1 | apply IsS47.set_2 | apply IsS47.set_3 | apply IsS47.set_4 | apply IsS47.set_5) | exact HI0.out), by repeat (first | (with_reducible first | exact HB.out | apply below_alloc | apply pw_below_drewN | apply below_drew1 | refine below_set ?_ (IsS47.ge HI0.out)) | exact HB.out), by repeat (first | (with_reducible first | exact HK.out | apply KeepBut.set_ | apply keep_drewN | apply keep_drew | apply keep_alloc) | exact HK.out)⟩

/-! ### watchkeeperref12_Delay_Value: function 16 -/
def watchkeeperref12_Delay_Value.f (s0_0 : Int) (s0_1 : Int) (s0_2 : Bool) (s0_3 : Bool) (s0_4 : Int) (s0_5 : Int) : Option (Bool × Int × Int × Bool × Bool × Int × Int) := some (s0_2, s0_0, s0_1, s0_2, s0_3, s0_4, s0_5)
set_option maxHeartbeats 8000000 in
set_option maxRecDepth 100000 in
theorem watchkeeperref12_Delay_Value.calls (g : Nat) (s0_0 : Int) (s0_1 : Int) (s0_2 : Bool) (s0_3 : Bool) (s0_4 : Int) (s0_5 : Int) (r1 : Bool) (r2 : Int) (r3 : Int) (r4 : Bool) (r5 : Bool) (r6 : Int) (r7 : Int) (w0 w : World) (hI : IsS47 w0 w g s0_0 s0_1 s0_2 s0_3 s0_4 s0_5) (hB : Below w0.heap.size w0 w) (h : watchkeeperref12_Delay_Value.f s0_0 s0_1 s0_2 s0_3 s0_4 s0_5 = some (r1, r2, r3, r4, r5, r6, r7)) :
    Calls Try.prog 16 #[.pointer (some ⟨g, 0, none⟩)] w fun e w' => e = .returned (.bool r1) ∧ IsS47 w0 w' g r2 r3 r4 r5 r6 r7 ∧ Below w0.heap.size w0 w' ∧ KeepBut w w' g none := by
  have HI0 := Aside0.mk hI
  have HK := Aside0.mk (KeepBut.refl w g none)
  have HL := Aside0.mk hB.size
  clear hI
  have HW0 := Aside0.mk hB.size
  have HB := Aside0.mk hB
  clear hB
  have H : (some (s0_2, s0_0, s0_1, s0_2, s0_3, s0_4, s0_5)) = some (r1, r2, r3, r4, r5, r6, r7) := h
  clear h
  simp only [Option.some.injEq, Prod.mk.injEq] at H
  obtain ⟨rfl, rfl, rfl, rfl, rfl, rfl, rfl⟩ := H
  obtain ⟨HGz2, hgz2⟩ := HI0.out
  have hcz2_0 := cellS47_0 HGz2
  have hcz2_1 := cellS47_1 HGz2
  have hcz2_2 := cellS47_2 HGz2
  have hcz2_3 := cellS47_3 HGz2
  have hcz2_4 := cellS47_4 HGz2
  have hcz2_5 := cellS47_5 HGz2
  have hfz2_0 := blk_frozen HGz2 0
  have hfz2_1 := blk_frozen HGz2 1
  have hfz2_2 := blk_frozen HGz2 2
  have hfz2_3 := blk_frozen HGz2 3
  have hfz2_4 := blk_frozen HGz2 4
  have hfz2_5 := blk_frozen HGz2 5
  clear HGz2 hgz2
  go_enter Try.func16, Try.ntmps16
  go_wp2
  go_ret
  exact ⟨by first | rfl | (simp [errW_none, errW_some] <;> rfl) | (simp [*, errW_none, errW_some] <;> rfl), by repeat (first | (with_reducible first | exact HI0.out | apply IsS47.alloc | apply IsS47.drewN | apply IsS47.drew | apply IsS47.set_0 | apply IsS47.set_1 | apply IsS47.set_2 | apply IsS47.set_3 | apply IsS47.set_4 | apply IsS47.set_5) | exact HI0.out), by repeat (first | (with_reducible first | exact HB.out | apply below_alloc | apply pw_below_drewN | apply below_drew1 | refine below_set ?_ (IsS47.ge HI0.out)) | exact HB.out), by repeat (first | (with_reducible first | exact HK.out | apply KeepBut.set_ | apply keep_drewN | apply keep_drew | apply keep_alloc) | exact HK.out)⟩

end Go.Proofs.Ytljabocijojceaa.QA
