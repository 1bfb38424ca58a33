/- Contracts of the functions that the law reaches, and what each comes to as a plain function; laid by a program of mine over the printer. -/
import Derived.Test.YtkmmkoiibcdmeaaCV
import Derived.Test.YtkmmkoiibcdmeaaQE2
namespace Go.Proofs.Ytkmmkoiibcdmeaa.QD
open Go.RowKit Go.Proofs.YtkmmkoiibcdmeaaW.PrintWords Go.Proofs.YtkmmkoiibcdmeaaW.PrintLast Go.Proofs.YtkmmkoiibcdmeaaW.PrintMore
attribute [local go_sem] max2_int min2_int max_two min_two max_three min_three max_four min_four   -- for this text's walks alone
set_option linter.unusedVariables false
set_option linter.unusedSimpArgs false

-- NOT PRINTED: function 21 (mbap_frames)

/-! ### mbap_Cut: function 13 -/
-- making=1 rounds=0
def mbap_Cut.f (l0 : List Int) : Option ((List (S26)) × Int × Int) := if l0.length ≤ 1000000 ∧ l0.all isByte = true then some (cutOf l0) else none
theorem mbap_Cut.calls (A0 : Option Addr) (c0 : Nat) (l0 : List Int) (r1 : List (S26)) (r2 : Int) (r3 : Int) (w : World) (hr0 : Kd.C (Kd.int .u8) w A0 l0.length l0) (hc0 : l0.length ≤ c0) (h : mbap_Cut.f l0 = some (r1, r2, r3)) :
    Calls Try.prog 13 #[.slice A0 l0.length c0] w fun e w' => ∃ v0_ : Value, e = .returned (.tuple #[v0_, .int .i64 r2, .int .i64 r3]) ∧ Kd.S k26 26 w' w.heap.size (fun _ => True) v0_ r1 ∧ Below w.heap.size w w' := by
  unfold mbap_Cut.f at h
  split at h
  case isTrue hc =>
    have h := Option.some.inj h
    refine (cut_any A0 c0 l0 w hc.1 (fun x hx => ?_) hr0 hc0).mono ?_
    · have := List.all_eq_true.1 hc.2 x hx
      simpa [isByte] using this
    · rintro e w' ⟨v, he, hr, hb⟩
      rw [h] at he hr
      exact ⟨v, he, hr, hb⟩
  case isFalse => cases h

/-! ### watchkeeperref03_Cut: function 14 -/
def watchkeeperref03_Cut.l0 : Nat → List Int → List (S26) → Int → Option ((List (S26)) × Int × Int)
  | 0, _, _, _ => none
  | k + 1, x0, x5, x6 => if 0 ≤ x6 then (if x6 ≤ (x0.length : Int) then ((watchkeeperref03_First.f k (x0.drop (x6 : Int).toNat)).bind fun bt154 => (if bt154.2.2.2.2 = 0 then (if bt154.2.2.2.1 = 0 then (some (x5, x6, bt154.2.2.2.2)) else (if x5.length < 4398046511104 then (watchkeeperref03_Cut.l0 k x0 (x5 ++ [(⟨bt154.1, bt154.2.1, bt154.2.2.1⟩ : S26)]) (wrap64 (x6 + bt154.2.2.2.1))) else (none))) else (some (x5, x6, bt154.2.2.2.2)))) else (none)) else (none)
def watchkeeperref03_Cut.f (k : Nat) (l0 : List Int) : Option ((List (S26)) × Int × Int) := watchkeeperref03_Cut.l0 k l0 ([] : List (S26)) 0
theorem watchkeeperref03_Cut.mono_l : ∀ k, (∀ y0 y1 y2, LeO (watchkeeperref03_Cut.l0 k y0 y1 y2) (watchkeeperref03_Cut.l0 (k + 1) y0 y1 y2))
  | 0 => fun _ _ _ r h => by simp [watchkeeperref03_Cut.l0] at h
  | k + 1 => by
    have ih0 := watchkeeperref03_Cut.mono_l k
    · intro y0 y1 y2
      unfold watchkeeperref03_Cut.l0
      repeat' first
      | (with_reducible exact ih0 _ _ _)
      | (with_reducible exact watchkeeperref03_First.mono _ _)
      | (with_reducible exact LeO.refl _)
      | (with_reducible exact LeO.none _)
      | (with_reducible refine LeO.ite ?_ ?_)
      | (with_reducible refine LeO.bind ?_ (fun _ => ?_))
      | exact ih0 _ _ _
      | exact watchkeeperref03_First.mono _ _
      | exact LeO.none _
      | refine LeO.ite ?_ ?_
      | refine LeO.bind ?_ (fun _ => ?_)
theorem watchkeeperref03_Cut.mono : ∀ a0 k, LeO (watchkeeperref03_Cut.f k a0) (watchkeeperref03_Cut.f (k + 1) a0) := by
  intro a0 k
  have ih0 := watchkeeperref03_Cut.mono_l k
  unfold watchkeeperref03_Cut.f
  repeat' first
      | (with_reducible exact ih0 _ _ _)
      | (with_reducible exact watchkeeperref03_First.mono _ _)
      | (with_reducible exact LeO.refl _)
      | (with_reducible exact LeO.none _)
      | (with_reducible refine LeO.ite ?_ ?_)
      | (with_reducible refine LeO.bind ?_ (fun _ => ?_))
      | exact ih0 _ _ _
      | exact watchkeeperref03_First.mono _ _
      | exact LeO.none _
      | refine LeO.ite ?_ ?_
      | refine LeO.bind ?_ (fun _ => ?_)
set_option maxHeartbeats 8000000 in
set_option maxRecDepth 100000 in
theorem watchkeeperref03_Cut.calls (k : Nat) (A0 : Option Addr) (c0 : Nat) (l0 : List Int) (r1 : List (S26)) (r2 : Int) (r3 : Int) (w : World) (hr0 : Kd.C (Kd.int .u8) w A0 l0.length l0) (hc0 : l0.length ≤ c0) (h : watchkeeperref03_Cut.f k l0 = some (r1, r2, r3)) :
    Calls Try.prog 14 #[.slice A0 l0.length c0] w fun e w' => ∃ v0_ : Value, e = .returned (.tuple #[v0_, .int .i64 r2, .int .i64 r3]) ∧ Kd.S k26 26 w' w.heap.size (fun _ => True) v0_ r1 ∧ Below w.heap.size w w' := by
  have hu26 := Try.underlying26
  have HR0 := Aside0.mk hr0
  have HC0 := Aside0.mk hc0
  clear hr0 hc0
  have HB := Aside0.mk (Below.refl w.heap.size w)
  have H : (watchkeeperref03_Cut.l0 k l0 ([] : List (S26)) 0) = some (r1, r2, r3) := h
  clear h
  have H' := Aside0.mk H
  clear H
  go_enter Try.func14, Try.ntmps14
  go_wp2
  go_loopg [5, 6] k (fun kq v5 v6 w' => ∃ (x5_1 : List (S26)) (x6_1 : Int), v6 = .int .i64 x6_1 ∧ Aside0 (watchkeeperref03_Cut.l0 kq l0 x5_1 x6_1 = some (r1, r2, r3)) ∧ Aside0 (kq ≤ k) ∧ Aside0 (Kd.S k26 26 w' w.heap.size (fun _ => True) v5 x5_1) ∧ Aside0 (Below w.heap.size w w'))
  case atStart => exact ⟨(([] : List (S26))), (0), (by first | rfl | (simp; done) | (simp [*]; done)), H', ⟨Nat.le_refl _⟩, ⟨by first | exact Kd.S_nil _ _ _ _ _ | exact Kd.N_nil _ _ _ _ _ | exact Kd.V_nil _ _ _ _ _ | exact Kd.Q_nil _ _ _ _ _ | exact Kd.R_nil _ _ _ _ _⟩, ⟨by repeat (first | (with_reducible first | exact HB.out | apply below_alloc | apply pw_below_drewN | apply below_drew1) | exact HB.out)⟩⟩
  case round =>
    clear H'
    try clear c1
    obtain ⟨x5_1, x6_1, rfl, HA, HK1, HO_5, HB⟩ := hrel
    cases gk with
    | zero => exact absurd HA.out (by simp [watchkeeperref03_Cut.l0])
    | succ k1 =>
      have H := HA.out
      clear HA
      simp only [watchkeeperref03_Cut.l0] at H
      by_cases c2 : 0 ≤ x6_1
      · rw [if_pos c2] at H
        have c2b0 := eq_true c2
        have c2b1 : decide (0 ≤ x6_1) = true := decide_eq_true c2
        clear c2
        by_cases c3 : x6_1 ≤ (l0.length : Int)
        · rw [if_pos c3] at H
          have c3b0 := eq_true c3
          have c3b1 : decide (x6_1 ≤ (l0.length : Int)) = true := decide_eq_true c3
          clear c3
          replace H := Option.bind_eq_some_iff.mp H
          obtain ⟨⟨t154, t155, t156, t159, t160⟩, A40, H⟩ := H
          replace H : (if t160 = 0 then (if t159 = 0 then (some (x5_1, x6_1, t160)) else (if x5_1.length < 4398046511104 then (watchkeeperref03_Cut.l0 k1 l0 (x5_1 ++ [(⟨t154, t155, t156⟩ : S26)]) (wrap64 (x6_1 + t159))) else (none))) else (some (x5_1, x6_1, t160))) = some (r1, r2, r3) := H
          have A4 := Aside0.mk A40
          clear A40
          by_cases c5 : t160 = 0
          · rw [if_pos c5] at H
            have c5b0 : (t160 == 0) = true := beq_iff_eq.mpr c5
            have c5b1 : (t160 != 0) = false := bne_eq_false_iff_eq.mpr c5
            clear c5
            by_cases c6 : t159 = 0
            · rw [if_pos c6] at H
              have c6b0 : (t159 == 0) = true := beq_iff_eq.mpr c6
              have c6b1 : (t159 != 0) = false := bne_eq_false_iff_eq.mpr c6
              clear c6
              simp only [Option.some.injEq, Prod.mk.injEq] at H
              obtain ⟨rfl, rfl, rfl⟩ := H
              obtain ⟨i07, hi07, _, hsz7, _⟩ := info_parts info5
              obtain ⟨A7, hcut7, hA7, hC7⟩ := print_drop_of (P := Try.prog) (Value.int .u8) 0 22 5 .i64 Try.underlying22 hi07 hsz7 A0 c0 l0 x6_1 (of_decide_eq_true (by first | (with_reducible assumption) | assumption)) (of_decide_eq_true (by first | (with_reducible assumption) | assumption)) HC0.out
              have HR153 := Aside0.mk (Kd.C_of_reads (h1 := fun _ => rfl) (hA7 _ (Kd.reads_of_C HR0.out)))
              have HC153 := Aside0.mk hC7
              clear hA7 hC7 hi07 hsz7
              go_wp2_with (first | ((with_reducible refine gate_callee (f := 12) rfl ?_); refine goesL_ (some 14) rfl rfl Try.func12 (by kernel_rfl) rfl #[.slice A7 (l0.drop (x6_1 : Int).toNat).length (c0 - x6_1.toNat)] rfl (by (try simp only [List.map_toArray, List.map_cons, List.map_nil]); first | done | (rw [show (l0.drop (x6_1 : Int).toNat).length = (l0.length - x6_1.toNat) from List.length_drop] <;> rfl) | rfl | (simp only [List.length_drop, List.length_take]; rfl)) ?_; (with_reducible refine (watchkeeperref03_First.calls k1 _ _ (l0.drop (x6_1 : Int).toNat) t154 t155 t156 t159 t160 _ ?side1 ?side2 A4.out).mono ?_); (case side1 => repeat (first | exact (Kd.C_below HR153.out HB.out) | (with_reducible refine Kd.C_alloc ?_ _) | (with_reducible refine Kd.C_drewN ?_ _) | (with_reducible refine Kd.C_drew ?_))); (case side2 => exact HC153.out); rintro e w8 ⟨v157, rfl, ho0, hb⟩; refine ⟨_, rfl, ?_⟩; have n0_ := Aside0.mk (Kd.S_elder' (by (with_reducible repeat (first | apply Kd.S_alloc | apply Kd.S_drewN | apply Kd.S_drew)); exact HO_5.out) (Kd.R_base ho0) hb); have n1_ := Aside0.mk (Kd.R_lower ho0 (below_size (by repeat (first | (with_reducible first | exact HB.out | apply below_alloc | apply pw_below_drewN | apply below_drew1) | exact HB.out)))); have n2_ := Aside0.mk (below_step (by repeat (first | (with_reducible first | exact HB.out | apply below_alloc | apply pw_below_drewN | apply below_drew1) | exact HB.out)) hb); clear HO_5; clear HB; have HO_5 := n0_; have HO158 := n1_; have HB := n2_; clear n0_ n1_ n2_; (try clear hb); (try clear hb2); (try clear hgn); (try clear hk); (try clear hi); (try clear ho0)) | ((with_reducible refine gate_dst (N := 7) rfl ?_); refine box_event ?hg (N := 7) ?hd (cs := #[.int .u16 0, .int .u8 0, .slice none 0 0]) (t := 26) ?hr ?_; (case hd => rfl); (case hg => rfl); (case hr => first | (go_simp; done) | (go_simp; rfl)); intro gb161 hg w9 hbox hb; have n0_ := Aside0.mk (Kd.S_below (Kd.S_elderB (by (with_reducible repeat (first | apply Kd.S_alloc | apply Kd.S_drewN | apply Kd.S_drew)); exact HO_5.out) gb161 (Nat.le_of_eq hg.symm)) hb); have n1_ := Aside0.mk (Kd.R_below (by (with_reducible repeat (first | apply Kd.R_alloc | apply Kd.R_drewN | apply Kd.R_drew)); exact HO158.out) hb); have n2_ := Aside0.mk (below_step (by repeat (first | (with_reducible first | exact HB.out | apply below_alloc | apply pw_below_drewN | apply below_drew1) | exact HB.out)) hb); have n3_ := Aside0.mk (hbox); have n4_ := Aside0.mk ((by rw [hg]; exact (below_size (by repeat (first | (with_reducible first | exact HB.out | apply below_alloc | apply pw_below_drewN | apply below_drew1) | exact HB.out))) : w.heap.size ≤ gb161)); have n5_ := Aside0.mk ((by rw [hg]; exact (below_size (by repeat (first | (with_reducible first | exact HB.out | apply below_alloc | apply pw_below_drewN | apply below_drew1) | exact HB.out))) : w.heap.size ≤ gb161)); clear HO_5; clear HO158; clear HB; have HO_5 := n0_; have HO158 := n1_; have HB := n2_; have BK161 := n3_; have GW161 := n4_; have GE161 := n5_; clear n0_ n1_ n2_ n3_ n4_ n5_; clear hb hbox hg; have hcz10_0 : w9.cell? ⟨gb161, 0, none⟩ = some (.int .u16 0) := (blk_cell BK161.out 0).trans rfl; have hcz10_1 : w9.cell? ⟨gb161, 1, none⟩ = some (.int .u8 0) := (blk_cell BK161.out 1).trans rfl; have hcz10_2 : w9.cell? ⟨gb161, 2, none⟩ = some (.slice none 0 0) := (blk_cell BK161.out 2).trans rfl; have hfz10_0 := blk_frozen BK161.out 0; have hfz10_1 := blk_frozen BK161.out 1; have hfz10_2 := blk_frozen BK161.out 2; obtain ⟨Ao11, co11, eo11⟩ := Kd.R_slice HO158.out; subst eo11))
              go_ret3
              exact ⟨_, by first | rfl | (simp [errW_none, errW_some] <;> rfl) | (simp [*, errW_none, errW_some] <;> rfl), by (with_reducible repeat (first | apply Kd.S_alloc | apply Kd.S_drewN | apply Kd.S_drew)); exact Kd.S_mono (Kd.S_far (p := ⟨gb161, 2, none⟩) (Kd.S_far (p := ⟨gb161, 1, none⟩) (Kd.S_far (p := ⟨gb161, 0, none⟩) (Kd.S_mono HO_5.out (fun k_ hk => (⟨hk, hk.2⟩ : _ ∧ k_ ≠ gb161))) (fun _ hk => hk.2) (.int .u16 t154)) (fun _ hk => hk.2) (.int .u8 t155)) (fun _ hk => hk.2) (.slice Ao11 t156.length co11)) (fun _ hk => trivial), by repeat (first | (with_reducible first | exact HB.out | apply below_alloc | apply pw_below_drewN | apply below_drew1 | refine below_set ?_ GE161.out) | exact HB.out)⟩
            · rw [if_neg c6] at H
              have c6b0 : (t159 == 0) = false := beq_eq_false_iff_ne.mpr c6
              have c6b1 : (t159 != 0) = true := bne_iff_ne.mpr c6
              by_cases c12 : x5_1.length < 4398046511104
              · rw [if_pos c12] at H
                have LMc12 := Aside0.mk c12
                clear c12
                obtain ⟨y162, hy162⟩ : ∃ y_ : List (S26), y_ = (x5_1 ++ [(⟨t154, t155, t156⟩ : S26)]) := ⟨_, rfl⟩
                replace H : (watchkeeperref03_Cut.l0 k1 l0 y162 (wrap64 (x6_1 + t159))) = some (r1, r2, r3) := by first | (rw [hy162]; with_reducible exact H) | (have H2_ := (Option.bind_some _ _).symm.trans H; rw [hy162]; with_reducible exact H2_) | (have H2_ := (Option.bind_some _ _).symm.trans H; with_reducible exact H2_) | with_reducible exact H | (rw [hy162]; exact H) | exact H
                have Ny162 := Aside0.mk hy162
                clear hy162
                have H' := Aside0.mk H
                clear H
                obtain ⟨i013, hi013, _, hsz13, _⟩ := info_parts info5
                obtain ⟨A13, hcut13, hA13, hC13⟩ := print_drop_of (P := Try.prog) (Value.int .u8) 0 22 5 .i64 Try.underlying22 hi013 hsz13 A0 c0 l0 x6_1 (of_decide_eq_true (by first | (with_reducible assumption) | assumption)) (of_decide_eq_true (by first | (with_reducible assumption) | assumption)) HC0.out
                have HR153 := Aside0.mk (Kd.C_of_reads (h1 := fun _ => rfl) (hA13 _ (Kd.reads_of_C HR0.out)))
                have HC153 := Aside0.mk hC13
                clear hA13 hC13 hi013 hsz13
                go_wp2_with (first | ((with_reducible refine gate_callee (f := 12) rfl ?_); refine goesL_ (some 14) rfl rfl Try.func12 (by kernel_rfl) rfl #[.slice A13 (l0.drop (x6_1 : Int).toNat).length (c0 - x6_1.toNat)] rfl (by (try simp only [List.map_toArray, List.map_cons, List.map_nil]); first | done | (rw [show (l0.drop (x6_1 : Int).toNat).length = (l0.length - x6_1.toNat) from List.length_drop] <;> rfl) | rfl | (simp only [List.length_drop, List.length_take]; rfl)) ?_; (with_reducible refine (watchkeeperref03_First.calls k1 _ _ (l0.drop (x6_1 : Int).toNat) t154 t155 t156 t159 t160 _ ?side1 ?side2 A4.out).mono ?_); (case side1 => repeat (first | exact (Kd.C_below HR153.out HB.out) | (with_reducible refine Kd.C_alloc ?_ _) | (with_reducible refine Kd.C_drewN ?_ _) | (with_reducible refine Kd.C_drew ?_))); (case side2 => exact HC153.out); rintro e w14 ⟨v157, rfl, ho0, hb⟩; refine ⟨_, rfl, ?_⟩; have n0_ := Aside0.mk (Kd.S_elder' (by (with_reducible repeat (first | apply Kd.S_alloc | apply Kd.S_drewN | apply Kd.S_drew)); exact HO_5.out) (Kd.R_base ho0) hb); have n1_ := Aside0.mk (Kd.R_lower ho0 (below_size (by repeat (first | (with_reducible first | exact HB.out | apply below_alloc | apply pw_below_drewN | apply below_drew1) | exact HB.out)))); have n2_ := Aside0.mk (below_step (by repeat (first | (with_reducible first | exact HB.out | apply below_alloc | apply pw_below_drewN | apply below_drew1) | exact HB.out)) hb); clear HO_5; clear HB; have HO_5 := n0_; have HO158 := n1_; have HB := n2_; clear n0_ n1_ n2_; (try clear hb); (try clear hb2); (try clear hgn); (try clear hk); (try clear hi); (try clear ho0)) | ((with_reducible refine gate_dst (N := 7) rfl ?_); refine box_event ?hg (N := 7) ?hd (cs := #[.int .u16 0, .int .u8 0, .slice none 0 0]) (t := 26) ?hr ?_; (case hd => rfl); (case hg => rfl); (case hr => first | (go_simp; done) | (go_simp; rfl)); intro gb161 hg w15 hbox hb; have n0_ := Aside0.mk (Kd.S_below (Kd.S_elderB (by (with_reducible repeat (first | apply Kd.S_alloc | apply Kd.S_drewN | apply Kd.S_drew)); exact HO_5.out) gb161 (Nat.le_of_eq hg.symm)) hb); have n1_ := Aside0.mk (Kd.R_below (by (with_reducible repeat (first | apply Kd.R_alloc | apply Kd.R_drewN | apply Kd.R_drew)); exact HO158.out) hb); have n2_ := Aside0.mk (below_step (by repeat (first | (with_reducible first | exact HB.out | apply below_alloc | apply pw_below_drewN | apply below_drew1) | exact HB.out)) hb); have n3_ := Aside0.mk (hbox); have n4_ := Aside0.mk ((by rw [hg]; exact (below_size (by repeat (first | (with_reducible first | exact HB.out | apply below_alloc | apply pw_below_drewN | apply below_drew1) | exact HB.out))) : w.heap.size ≤ gb161)); have n5_ := Aside0.mk ((by rw [hg]; exact (below_size (by repeat (first | (with_reducible first | exact HB.out | apply below_alloc | apply pw_below_drewN | apply below_drew1) | exact HB.out))) : w.heap.size ≤ gb161)); clear HO_5; clear HO158; clear HB; have HO_5 := n0_; have HO158 := n1_; have HB := n2_; have BK161 := n3_; have GW161 := n4_; have GE161 := n5_; clear n0_ n1_ n2_ n3_ n4_ n5_; clear hb hbox hg; have hcz16_0 : w15.cell? ⟨gb161, 0, none⟩ = some (.int .u16 0) := (blk_cell BK161.out 0).trans rfl; have hcz16_1 : w15.cell? ⟨gb161, 1, none⟩ = some (.int .u8 0) := (blk_cell BK161.out 1).trans rfl; have hcz16_2 : w15.cell? ⟨gb161, 2, none⟩ = some (.slice none 0 0) := (blk_cell BK161.out 2).trans rfl; have hfz16_0 := blk_frozen BK161.out 0; have hfz16_1 := blk_frozen BK161.out 1; have hfz16_2 := blk_frozen BK161.out 2; obtain ⟨Ao17, co17, eo17⟩ := Kd.R_slice HO158.out; subst eo17) | ((with_reducible refine gate_store (t := 26) (p := 7) rfl ?_); refine store_event (t := 26) (p := 7) (v := ?vo_w18) (w1 := (((w15.setCell ⟨gb161, 0, none⟩ (.int .u16 t154)).setCell ⟨gb161, 1, none⟩ (.int .u8 t155)).setCell ⟨gb161, 2, none⟩ (.slice Ao17 t156.length co17))) ?hg ?ho ?hn ?hr ?_; (case ho => rfl); (case hg => rfl); (case hn => rfl); (case hr => first | (go_simp; done) | (go_simp; rfl)); intro w18 hw; have n0_ : Aside0 (Kd.S k26 26 w18 w.heap.size (fun k_ => some k_ ≠ (.slice Ao17 t156.length co17 : Value).ownBlock ∧ k_ ≠ gb161) u5 x5_1) := ⟨(by rw [hw]; exact (by (with_reducible repeat (first | apply Kd.S_alloc | apply Kd.S_drewN | apply Kd.S_drew)); exact Kd.S_mono (Kd.S_far (p := ⟨gb161, 2, none⟩) (Kd.S_far (p := ⟨gb161, 1, none⟩) (Kd.S_far (p := ⟨gb161, 0, none⟩) (Kd.S_mono HO_5.out (fun k_ hk => (⟨hk, hk.2⟩ : _ ∧ k_ ≠ gb161))) (fun _ hk => hk.2) (.int .u16 t154)) (fun _ hk => hk.2) (.int .u8 t155)) (fun _ hk => hk.2) (.slice Ao17 t156.length co17)) (fun _ hk => ⟨hk.1.1.2, hk.1.2⟩)))⟩; have n1_ : Aside0 (Kd.R (Kd.int .u8) 5 w18 w.heap.size (fun _ => True) (.slice Ao17 t156.length co17) t156) := ⟨(by rw [hw]; exact (by (with_reducible repeat (first | apply Kd.R_alloc | apply Kd.R_drewN | apply Kd.R_drew)); exact Kd.R_mono (Kd.R_far (p := ⟨gb161, 2, none⟩) (Kd.R_far (p := ⟨gb161, 1, none⟩) (Kd.R_far (p := ⟨gb161, 0, none⟩) (Kd.R_types HO158.out BK161.out (by decide)) (fun _ hk => hk.2) (.int .u16 t154)) (fun _ hk => hk.2) (.int .u8 t155)) (fun _ hk => hk.2) (.slice Ao17 t156.length co17)) (fun _ hk => trivial)))⟩; have n2_ : Aside0 (w18.heap[gb161]? = some (.cells #[.int .u16 t154, .int .u8 t155, .slice Ao17 t156.length co17] 26 (0, 0))) := ⟨(by rw [hw]; exact (by (with_reducible repeat (first | refine blk_drewN ?_ _ | refine blk_drew ?_ | refine blk_alloc ?_ _)); refine blk_put (cs := #[.int .u16 t154, .int .u8 t155, .slice none 0 0]) ?_ 2 _ rfl; (with_reducible repeat (first | refine blk_drewN ?_ _ | refine blk_drew ?_ | refine blk_alloc ?_ _)); refine blk_put (cs := #[.int .u16 t154, .int .u8 0, .slice none 0 0]) ?_ 1 _ rfl; (with_reducible repeat (first | refine blk_drewN ?_ _ | refine blk_drew ?_ | refine blk_alloc ?_ _)); refine blk_put (cs := #[.int .u16 0, .int .u8 0, .slice none 0 0]) ?_ 0 _ rfl; (with_reducible repeat (first | refine blk_drewN ?_ _ | refine blk_drew ?_ | refine blk_alloc ?_ _)); exact BK161.out))⟩; have n3_ : Aside0 (Below w.heap.size w w18) := ⟨(by rw [hw]; exact (by repeat (first | (with_reducible first | exact HB.out | apply below_alloc | apply pw_below_drewN | apply below_drew1 | refine below_set ?_ GE161.out) | exact HB.out)))⟩; clear hw; clear HO_5; clear HO158; clear BK161; clear HB; have HO_5 := n0_; have HO158 := n1_; have BK161 := n2_; have HB := n3_; clear n0_ n1_ n2_ n3_; have hcz19_0 : w18.cell? ⟨gb161, 0, none⟩ = some (.int .u16 t154) := (blk_cell BK161.out 0).trans rfl; have hcz19_1 : w18.cell? ⟨gb161, 1, none⟩ = some (.int .u8 t155) := (blk_cell BK161.out 1).trans rfl; have hcz19_2 : w18.cell? ⟨gb161, 2, none⟩ = some (.slice Ao17 t156.length co17) := (blk_cell BK161.out 2).trans rfl; have hfz19_0 := blk_frozen BK161.out 0; have hfz19_1 := blk_frozen BK161.out 1; have hfz19_2 := blk_frozen BK161.out 2) | ((with_reducible refine gate_builtin (b := .append) (xs := #[.tmp 27, .tmp 29]) rfl ?_); at_builtin; refine Kd.S_append k26 (w0 := w) w.heap.size rfl (.tmp 27) (.tmp 29) 32 26 (.agg #[(.int .u16 0), (.int .u8 0), (.slice none 0 0)]) 32 rfl Try.underlying32 info26 rfl (by decide) (by omega) u5 x5_1 (⟨t154, t155, t156⟩ : S26) [.int .u16 t154, .int .u8 t155, .slice Ao17 t156.length co17] (fun k_ => k_ ≠ gb161) (fun k_ => some k_ = (.slice Ao17 t156.length co17 : Value).ownBlock) rfl rfl ?aP (fun k_ hk_ => ((Kd.R_mono (ok' := fun k_ => ((fun k_ => k_ ≠ gb161)) k_ ∧ some k_ ≠ (u5 : Value).ownBlock) (Kd.R_types (Kd.R_apart' (HO158.out) (Kd.S_typed HO_5.out) (by decide)) BK161.out (by decide)) (fun k_ hk => ⟨hk.2, hk.1.2⟩))).1 k_ hk_.symm) ?aF ?aO ?aB ?aS ?aL ?_; (case aP => exact k26_mkM _ _ _ (⟨t154, t155, t156⟩ : S26) (Kd.R_mono (Kd.R_tight rfl (Kd.R_mono (ok' := fun k_ => ((fun k_ => k_ ≠ gb161)) k_ ∧ some k_ ≠ (u5 : Value).ownBlock) (Kd.R_types (Kd.R_apart' (HO158.out) (Kd.S_typed HO_5.out) (by decide)) BK161.out (by decide)) (fun k_ hk => ⟨hk.2, hk.1.2⟩))) (fun _ h_ => h_))); (case aB => exact (by repeat (first | (with_reducible first | exact HB.out | apply below_alloc | apply pw_below_drewN | apply below_drew1 | refine below_set ?_ GE161.out) | exact HB.out))); (case aF => exact (fun k_ hk => Kd.freshB (g := gb161) (o := .cells #[.int .u16 t154, .int .u8 t155, .slice Ao17 t156.length co17] 26 (0, 0)) (by (with_reducible repeat (first | refine blk_drewN ?_ _ | refine blk_drew ?_ | refine blk_alloc ?_ _)); exact BK161.out) k_ hk)); (case aO => exact (by (with_reducible repeat (first | apply Kd.S_alloc | apply Kd.S_drewN | apply Kd.S_drew)); exact Kd.S_mono HO_5.out (fun k_ hk => ⟨hk.2, fun e_ => hk.1 e_⟩))); (case aS => exact (below_size (by repeat (first | (with_reducible first | exact HB.out | apply below_alloc | apply pw_below_drewN | apply below_drew1 | refine below_set ?_ GE161.out) | exact HB.out)))); (case aL => have := LMc12.out; omega); intro v163 w20 ho hb hg hat; rw [← Ny162.out] at ho; have n0_ := Aside0.mk (blk_grown (g := gb161) (o := .cells #[.int .u16 t154, .int .u8 t155, .slice Ao17 t156.length co17] 26 (0, 0)) (by (with_reducible repeat (first | refine blk_drewN ?_ _ | refine blk_drew ?_ | refine blk_alloc ?_ _)); exact BK161.out) hg (Kd.S_away HO_5.out (fun _ hk => hk.2))); have n1_ := Aside0.mk (hb); have n2_ := Aside0.mk (ho); clear BK161; clear HB; clear HO_5; clear HO158; have BK161 := n0_; have HB := n1_; have HO164 := n2_; clear n0_ n1_ n2_; clear ho hb hg hat))
                go_roundg k1
                case measure => have := HK1.out; omega
                case rel => exact ⟨(y162), (wrap64 (x6_1 + t159)), (by first | rfl | (simp; done) | (simp [*]; done)), H', ⟨by have := HK1.out; omega⟩, ⟨by (with_reducible repeat (first | apply Kd.S_alloc | apply Kd.S_drewN | apply Kd.S_drew)); exact Kd.S_mono HO164.out (fun _ hk => trivial)⟩, ⟨by repeat (first | (with_reducible first | exact HB.out | apply below_alloc | apply pw_below_drewN | apply below_drew1 | refine below_set ?_ GE161.out) | exact HB.out)⟩⟩
              · rw [if_neg c12] at H
                exact absurd H (by simp)
          · rw [if_neg c5] at H
            have c5b0 : (t160 == 0) = false := beq_eq_false_iff_ne.mpr c5
            have c5b1 : (t160 != 0) = true := bne_iff_ne.mpr c5
            simp only [Option.some.injEq, Prod.mk.injEq] at H
            obtain ⟨rfl, rfl, rfl⟩ := H
            obtain ⟨i021, hi021, _, hsz21, _⟩ := info_parts info5
            obtain ⟨A21, hcut21, hA21, hC21⟩ := print_drop_of (P := Try.prog) (Value.int .u8) 0 22 5 .i64 Try.underlying22 hi021 hsz21 A0 c0 l0 x6_1 (of_decide_eq_true (by first | (with_reducible assumption) | assumption)) (of_decide_eq_true (by first | (with_reducible assumption) | assumption)) HC0.out
            have HR153 := Aside0.mk (Kd.C_of_reads (h1 := fun _ => rfl) (hA21 _ (Kd.reads_of_C HR0.out)))
            have HC153 := Aside0.mk hC21
            clear hA21 hC21 hi021 hsz21
            go_wp2_with (first | ((with_reducible refine gate_callee (f := 12) rfl ?_); refine goesL_ (some 14) rfl rfl Try.func12 (by kernel_rfl) rfl #[.slice A21 (l0.drop (x6_1 : Int).toNat).length (c0 - x6_1.toNat)] rfl (by (try simp only [List.map_toArray, List.map_cons, List.map_nil]); first | done | (rw [show (l0.drop (x6_1 : Int).toNat).length = (l0.length - x6_1.toNat) from List.length_drop] <;> rfl) | rfl | (simp only [List.length_drop, List.length_take]; rfl)) ?_; (with_reducible refine (watchkeeperref03_First.calls k1 _ _ (l0.drop (x6_1 : Int).toNat) t154 t155 t156 t159 t160 _ ?side1 ?side2 A4.out).mono ?_); (case side1 => repeat (first | exact (Kd.C_below HR153.out HB.out) | (with_reducible refine Kd.C_alloc ?_ _) | (with_reducible refine Kd.C_drewN ?_ _) | (with_reducible refine Kd.C_drew ?_))); (case side2 => exact HC153.out); rintro e w22 ⟨v157, rfl, ho0, hb⟩; refine ⟨_, rfl, ?_⟩; have n0_ := Aside0.mk (Kd.S_elder' (by (with_reducible repeat (first | apply Kd.S_alloc | apply Kd.S_drewN | apply Kd.S_drew)); exact HO_5.out) (Kd.R_base ho0) hb); have n1_ := Aside0.mk (Kd.R_lower ho0 (below_size (by repeat (first | (with_reducible first | exact HB.out | apply below_alloc | apply pw_below_drewN | apply below_drew1) | exact HB.out)))); have n2_ := Aside0.mk (below_step (by repeat (first | (with_reducible first | exact HB.out | apply below_alloc | apply pw_below_drewN | apply below_drew1) | exact HB.out)) hb); clear HO_5; clear HB; have HO_5 := n0_; have HO158 := n1_; have HB := n2_; clear n0_ n1_ n2_; (try clear hb); (try clear hb2); (try clear hgn); (try clear hk); (try clear hi); (try clear ho0)) | ((with_reducible refine gate_dst (N := 7) rfl ?_); refine box_event ?hg (N := 7) ?hd (cs := #[.int .u16 0, .int .u8 0, .slice none 0 0]) (t := 26) ?hr ?_; (case hd => rfl); (case hg => rfl); (case hr => first | (go_simp; done) | (go_simp; rfl)); intro gb161 hg w23 hbox hb; have n0_ := Aside0.mk (Kd.S_below (Kd.S_elderB (by (with_reducible repeat (first | apply Kd.S_alloc | apply Kd.S_drewN | apply Kd.S_drew)); exact HO_5.out) gb161 (Nat.le_of_eq hg.symm)) hb); have n1_ := Aside0.mk (Kd.R_below (by (with_reducible repeat (first | apply Kd.R_alloc | apply Kd.R_drewN | apply Kd.R_drew)); exact HO158.out) hb); have n2_ := Aside0.mk (below_step (by repeat (first | (with_reducible first | exact HB.out | apply below_alloc | apply pw_below_drewN | apply below_drew1) | exact HB.out)) hb); have n3_ := Aside0.mk (hbox); have n4_ := Aside0.mk ((by rw [hg]; exact (below_size (by repeat (first | (with_reducible first | exact HB.out | apply below_alloc | apply pw_below_drewN | apply below_drew1) | exact HB.out))) : w.heap.size ≤ gb161)); have n5_ := Aside0.mk ((by rw [hg]; exact (below_size (by repeat (first | (with_reducible first | exact HB.out | apply below_alloc | apply pw_below_drewN | apply below_drew1) | exact HB.out))) : w.heap.size ≤ gb161)); clear HO_5; clear HO158; clear HB; have HO_5 := n0_; have HO158 := n1_; have HB := n2_; have BK161 := n3_; have GW161 := n4_; have GE161 := n5_; clear n0_ n1_ n2_ n3_ n4_ n5_; clear hb hbox hg; have hcz24_0 : w23.cell? ⟨gb161, 0, none⟩ = some (.int .u16 0) := (blk_cell BK161.out 0).trans rfl; have hcz24_1 : w23.cell? ⟨gb161, 1, none⟩ = some (.int .u8 0) := (blk_cell BK161.out 1).trans rfl; have hcz24_2 : w23.cell? ⟨gb161, 2, none⟩ = some (.slice none 0 0) := (blk_cell BK161.out 2).trans rfl; have hfz24_0 := blk_frozen BK161.out 0; have hfz24_1 := blk_frozen BK161.out 1; have hfz24_2 := blk_frozen BK161.out 2; obtain ⟨Ao25, co25, eo25⟩ := Kd.R_slice HO158.out; subst eo25))
            go_ret3
            exact ⟨_, by first | rfl | (simp [errW_none, errW_some] <;> rfl) | (simp [*, errW_none, errW_some] <;> rfl), by (with_reducible repeat (first | apply Kd.S_alloc | apply Kd.S_drewN | apply Kd.S_drew)); exact Kd.S_mono (Kd.S_far (p := ⟨gb161, 2, none⟩) (Kd.S_far (p := ⟨gb161, 1, none⟩) (Kd.S_far (p := ⟨gb161, 0, none⟩) (Kd.S_mono HO_5.out (fun k_ hk => (⟨hk, hk.2⟩ : _ ∧ k_ ≠ gb161))) (fun _ hk => hk.2) (.int .u16 t154)) (fun _ hk => hk.2) (.int .u8 t155)) (fun _ hk => hk.2) (.slice Ao25 t156.length co25)) (fun _ hk => trivial), by repeat (first | (with_reducible first | exact HB.out | apply below_alloc | apply pw_below_drewN | apply below_drew1 | refine below_set ?_ GE161.out) | exact HB.out)⟩
        · rw [if_neg c3] at H
          exact absurd H (by simp)
      · rw [if_neg c2] at H
        exact absurd H (by simp)

/-! ### watchkeeperref03_Put: function 16 -/
def watchkeeperref03_Put.f (a0_0 : Int) (a0_1 : Int) (l0_2 : List Int) : Option (List Int) := if (l0_2.length : Int) = 0 then (some ([] : List Int)) else (if (l0_2.length : Int) > 253 then (some ([] : List Int)) else ((some (([(a0_0 / 256) % 256, (a0_0) % 256, 0, 0, ((wrap64 ((l0_2.length : Int) + 1)) / 256) % 256, (wrap64 ((l0_2.length : Int) + 1)) % 256, a0_1] : List Int) : List Int)).bind fun y166 => (if y166.length + l0_2.length < 140737488355328 then (some (y166 ++ l0_2)) else (none))))
set_option maxHeartbeats 8000000 in
set_option maxRecDepth 100000 in
theorem watchkeeperref03_Put.calls (a0_0 : Int) (a0_1 : Int) (A0_2 : Option Addr) (c0_2 : Nat) (l0_2 : List Int) (r : List Int) (w : World) (hr0_2 : Kd.C (Kd.int .u8) w A0_2 l0_2.length l0_2) (hc0_2 : l0_2.length ≤ c0_2) (h : watchkeeperref03_Put.f a0_0 a0_1 l0_2 = some r) :
    Calls Try.prog 16 #[.agg #[.int .u16 a0_0, .int .u8 a0_1, .slice A0_2 l0_2.length c0_2]] w fun e w' => ∃ v0_ : Value, e = .returned (v0_) ∧ Kd.R (Kd.int .u8) 5 w' w.heap.size (fun _ => True) v0_ r ∧ Below w.heap.size w w' := by
  have hu26 := Try.underlying26
  have HR0_2 := Aside0.mk hr0_2
  have HC0_2 := Aside0.mk hc0_2
  clear hr0_2 hc0_2
  have HB := Aside0.mk (Below.refl w.heap.size w)
  have H : (if (l0_2.length : Int) = 0 then (some ([] : List Int)) else (if (l0_2.length : Int) > 253 then (some ([] : List Int)) else ((some (([(a0_0 / 256) % 256, (a0_0) % 256, 0, 0, ((wrap64 ((l0_2.length : Int) + 1)) / 256) % 256, (wrap64 ((l0_2.length : Int) + 1)) % 256, a0_1] : List Int) : List Int)).bind fun y166 => (if y166.length + l0_2.length < 140737488355328 then (some (y166 ++ l0_2)) else (none))))) = some r := h
  clear h
  by_cases c2 : (l0_2.length : Int) = 0
  · rw [if_pos c2] at H
    have c2b0 : ((l0_2.length : Int) == 0) = true := beq_iff_eq.mpr c2
    have c2b1 : ((l0_2.length : Int) != 0) = false := bne_eq_false_iff_eq.mpr c2
    clear c2
    obtain rfl := Option.some.inj H
    go_enter Try.func16, Try.ntmps16
    go_wp2_with (first | ((with_reducible refine gate_dst (N := 1) rfl ?_); (try (refine gate_guard (by rfl) ?_; dsimp only)); refine box_event ?hg (N := 1) ?hd (cs := #[.int .u16 a0_0, .int .u8 a0_1, .slice A0_2 l0_2.length c0_2]) (t := 26) ?hr ?_; (case hd => rfl); (case hg => rfl); (case hr => first | (go_simp; done) | (go_simp; rfl)); intro gb165 hg w3 hbox hb; have n0_ := Aside0.mk (below_step (by repeat (first | (with_reducible first | exact HB.out | apply below_alloc | apply pw_below_drewN | apply below_drew1) | exact HB.out)) hb); have n1_ := Aside0.mk (hbox); have n2_ := Aside0.mk ((by rw [hg]; exact (below_size (by repeat (first | (with_reducible first | exact HB.out | apply below_alloc | apply pw_below_drewN | apply below_drew1) | exact HB.out))) : w.heap.size ≤ gb165)); have n3_ := Aside0.mk ((by rw [hg]; exact (below_size (by repeat (first | (with_reducible first | exact HB.out | apply below_alloc | apply pw_below_drewN | apply below_drew1) | exact HB.out))) : w.heap.size ≤ gb165)); clear HB; have HB := n0_; have BK165 := n1_; have GW165 := n2_; have GE165 := n3_; clear n0_ n1_ n2_ n3_; clear hb hbox hg; have hcz4_0 : w3.cell? ⟨gb165, 0, none⟩ = some (.int .u16 a0_0) := (blk_cell BK165.out 0).trans rfl; have hcz4_1 : w3.cell? ⟨gb165, 1, none⟩ = some (.int .u8 a0_1) := (blk_cell BK165.out 1).trans rfl; have hcz4_2 : w3.cell? ⟨gb165, 2, none⟩ = some (.slice A0_2 l0_2.length c0_2) := (blk_cell BK165.out 2).trans rfl; have hfz4_0 := blk_frozen BK165.out 0; have hfz4_1 := blk_frozen BK165.out 1; have hfz4_2 := blk_frozen BK165.out 2))
    go_ret
    exact ⟨_, by first | rfl | (simp [errW_none, errW_some] <;> rfl) | (simp [*, errW_none, errW_some] <;> rfl), by first | exact Kd.R_nil _ _ _ _ _ | exact Kd.N_nil _ _ _ _ _ | exact Kd.V_nil _ _ _ _ _ | exact Kd.Q_nil _ _ _ _ _ | exact Kd.S_nil _ _ _ _ _, by repeat (first | (with_reducible first | exact HB.out | apply below_alloc | apply pw_below_drewN | apply below_drew1 | refine below_set ?_ GE165.out) | exact HB.out)⟩
  · rw [if_neg c2] at H
    have c2b0 : ((l0_2.length : Int) == 0) = false := beq_eq_false_iff_ne.mpr c2
    have c2b1 : ((l0_2.length : Int) != 0) = true := bne_iff_ne.mpr c2
    have c2b2 : ¬ (l0_2 = []) := fun h_ => c2 (by rw [h_]; rfl)
    by_cases c5 : (l0_2.length : Int) > 253
    · rw [if_pos c5] at H
      have c5b0 : decide (253 < (l0_2.length : Int)) = true := decide_eq_true c5
      have c5b1 : decide (253 < l0_2.length) = true := decide_eq_true (by omega)
      clear c5
      obtain rfl := Option.some.inj H
      go_enter Try.func16, Try.ntmps16
      go_wp2_with (first | ((with_reducible refine gate_dst (N := 1) rfl ?_); (try (refine gate_guard (by rfl) ?_; dsimp only)); refine box_event ?hg (N := 1) ?hd (cs := #[.int .u16 a0_0, .int .u8 a0_1, .slice A0_2 l0_2.length c0_2]) (t := 26) ?hr ?_; (case hd => rfl); (case hg => rfl); (case hr => first | (go_simp; done) | (go_simp; rfl)); intro gb165 hg w6 hbox hb; have n0_ := Aside0.mk (below_step (by repeat (first | (with_reducible first | exact HB.out | apply below_alloc | apply pw_below_drewN | apply below_drew1) | exact HB.out)) hb); have n1_ := Aside0.mk (hbox); have n2_ := Aside0.mk ((by rw [hg]; exact (below_size (by repeat (first | (with_reducible first | exact HB.out | apply below_alloc | apply pw_below_drewN | apply below_drew1) | exact HB.out))) : w.heap.size ≤ gb165)); have n3_ := Aside0.mk ((by rw [hg]; exact (below_size (by repeat (first | (with_reducible first | exact HB.out | apply below_alloc | apply pw_below_drewN | apply below_drew1) | exact HB.out))) : w.heap.size ≤ gb165)); clear HB; have HB := n0_; have BK165 := n1_; have GW165 := n2_; have GE165 := n3_; clear n0_ n1_ n2_ n3_; clear hb hbox hg; have hcz7_0 : w6.cell? ⟨gb165, 0, none⟩ = some (.int .u16 a0_0) := (blk_cell BK165.out 0).trans rfl; have hcz7_1 : w6.cell? ⟨gb165, 1, none⟩ = some (.int .u8 a0_1) := (blk_cell BK165.out 1).trans rfl; have hcz7_2 : w6.cell? ⟨gb165, 2, none⟩ = some (.slice A0_2 l0_2.length c0_2) := (blk_cell BK165.out 2).trans rfl; have hfz7_0 := blk_frozen BK165.out 0; have hfz7_1 := blk_frozen BK165.out 1; have hfz7_2 := blk_frozen BK165.out 2))
      go_ret
      exact ⟨_, by first | rfl | (simp [errW_none, errW_some] <;> rfl) | (simp [*, errW_none, errW_some] <;> rfl), by first | exact Kd.R_nil _ _ _ _ _ | exact Kd.N_nil _ _ _ _ _ | exact Kd.V_nil _ _ _ _ _ | exact Kd.Q_nil _ _ _ _ _ | exact Kd.S_nil _ _ _ _ _, by repeat (first | (with_reducible first | exact HB.out | apply below_alloc | apply pw_below_drewN | apply below_drew1 | refine below_set ?_ GE165.out) | exact HB.out)⟩
    · rw [if_neg c5] at H
      have c5b0 : decide (253 < (l0_2.length : Int)) = false := decide_eq_false c5
      have c5b1 : decide (253 < l0_2.length) = false := decide_eq_false (by omega)
      clear c5
      obtain ⟨y166, hy166⟩ : ∃ y_ : List Int, y_ = (([(a0_0 / 256) % 256, (a0_0) % 256, 0, 0, ((wrap64 ((l0_2.length : Int) + 1)) / 256) % 256, (wrap64 ((l0_2.length : Int) + 1)) % 256, a0_1] : List Int)) := ⟨_, rfl⟩
      replace H : (if y166.length + l0_2.length < 140737488355328 then (some (y166 ++ l0_2)) else (none)) = some r := by first | (rw [hy166]; with_reducible exact H) | (have H2_ := (Option.bind_some _ _).symm.trans H; rw [hy166]; with_reducible exact H2_) | (have H2_ := (Option.bind_some _ _).symm.trans H; with_reducible exact H2_) | with_reducible exact H | (rw [hy166]; exact H) | exact H
      have Ny166 := Aside0.mk hy166
      clear hy166
      by_cases c8 : y166.length + l0_2.length < 140737488355328
      · rw [if_pos c8] at H
        have LMc8 := Aside0.mk c8
        clear c8
        obtain ⟨y169, hy169⟩ : ∃ y_ : List Int, y_ = (y166 ++ l0_2) := ⟨_, rfl⟩
        replace H : (some y169) = some r := by first | (rw [hy169]; with_reducible exact H) | (have H2_ := (Option.bind_some _ _).symm.trans H; rw [hy169]; with_reducible exact H2_) | (have H2_ := (Option.bind_some _ _).symm.trans H; with_reducible exact H2_) | with_reducible exact H | (rw [hy169]; exact H) | exact H
        have Ny169 := Aside0.mk hy169
        clear hy169
        obtain rfl := Option.some.inj H
        go_enter Try.func16, Try.ntmps16
        go_wp2_with (first | ((with_reducible refine gate_dst (N := 1) rfl ?_); (try (refine gate_guard (by rfl) ?_; dsimp only)); refine box_event ?hg (N := 1) ?hd (cs := #[.int .u16 a0_0, .int .u8 a0_1, .slice A0_2 l0_2.length c0_2]) (t := 26) ?hr ?_; (case hd => rfl); (case hg => rfl); (case hr => first | (go_simp; done) | (go_simp; rfl)); intro gb165 hg w9 hbox hb; have n0_ := Aside0.mk (below_step (by repeat (first | (with_reducible first | exact HB.out | apply below_alloc | apply pw_below_drewN | apply below_drew1) | exact HB.out)) hb); have n1_ := Aside0.mk (hbox); have n2_ := Aside0.mk ((by rw [hg]; exact (below_size (by repeat (first | (with_reducible first | exact HB.out | apply below_alloc | apply pw_below_drewN | apply below_drew1) | exact HB.out))) : w.heap.size ≤ gb165)); have n3_ := Aside0.mk ((by rw [hg]; exact (below_size (by repeat (first | (with_reducible first | exact HB.out | apply below_alloc | apply pw_below_drewN | apply below_drew1) | exact HB.out))) : w.heap.size ≤ gb165)); clear HB; have HB := n0_; have BK165 := n1_; have GW165 := n2_; have GE165 := n3_; clear n0_ n1_ n2_ n3_; clear hb hbox hg; have hcz10_0 : w9.cell? ⟨gb165, 0, none⟩ = some (.int .u16 a0_0) := (blk_cell BK165.out 0).trans rfl; have hcz10_1 : w9.cell? ⟨gb165, 1, none⟩ = some (.int .u8 a0_1) := (blk_cell BK165.out 1).trans rfl; have hcz10_2 : w9.cell? ⟨gb165, 2, none⟩ = some (.slice A0_2 l0_2.length c0_2) := (blk_cell BK165.out 2).trans rfl; have hfz10_0 := blk_frozen BK165.out 0; have hfz10_1 := blk_frozen BK165.out 1; have hfz10_2 := blk_frozen BK165.out 2) | ((with_reducible refine gate_dst (N := 32) rfl ?_); (try (refine gate_guard (by rfl) ?_; dsimp only)); refine Kd.R_lit (Kd.int .u8) _ 5 ?hg (N := 32) ?hd (xs := ([(a0_0 / 256) % 256, (a0_0) % 256, 0, 0, ((wrap64 ((l0_2.length : Int) + 1)) / 256) % 256, (wrap64 ((l0_2.length : Int) + 1)) % 256, a0_1] : List Int)) (inner := [.int .u8 ((a0_0 / 256) % 256), .int .u8 ((a0_0) % 256), .int .u8 0, .int .u8 0, .int .u8 (((wrap64 ((l0_2.length : Int) + 1)) / 256) % 256), .int .u8 ((wrap64 ((l0_2.length : Int) + 1)) % 256), .int .u8 a0_1]) (ok := fun _ => True) (okp := fun _ => True) ?hr ?hp (fun _ hk => hk) trivial (Below.refl _ _) (Nat.le_refl _) (by simp) ?_; (case hd => rfl); (case hg => rfl); (case hr => first | (go_simp; done) | (go_simp; rfl)); (case hp => exact (Reps.one (show Kd.M (Kd.int .u8) _ _ _ ((a0_0 / 256) % 256) [.int .u8 ((a0_0 / 256) % 256)] from rfl) (Reps.one (show Kd.M (Kd.int .u8) _ _ _ ((a0_0) % 256) [.int .u8 ((a0_0) % 256)] from rfl) (Reps.one (show Kd.M (Kd.int .u8) _ _ _ 0 [.int .u8 0] from rfl) (Reps.one (show Kd.M (Kd.int .u8) _ _ _ 0 [.int .u8 0] from rfl) (Reps.one (show Kd.M (Kd.int .u8) _ _ _ (((wrap64 ((l0_2.length : Int) + 1)) / 256) % 256) [.int .u8 (((wrap64 ((l0_2.length : Int) + 1)) / 256) % 256)] from rfl) (Reps.one (show Kd.M (Kd.int .u8) _ _ _ ((wrap64 ((l0_2.length : Int) + 1)) % 256) [.int .u8 ((wrap64 ((l0_2.length : Int) + 1)) % 256)] from rfl) (Reps.one (show Kd.M (Kd.int .u8) _ _ _ a0_1 [.int .u8 a0_1] from rfl) (Reps.none _ _))))))))); intro v167 w11 ho12 hb hg_ hnew_; clear hg_ hnew_; (first | rw [← Ny166.out] at ho12 | (simp only [Int.reduceToNat] at ho12; rw [← Ny166.out] at ho12)); have n0_ := Aside0.mk (Kd.R_lower ho12 (below_size (by repeat (first | (with_reducible first | exact HB.out | apply below_alloc | apply pw_below_drewN | apply below_drew1 | refine below_set ?_ GE165.out) | exact HB.out)))); have n1_ := Aside0.mk (blk_below (g := gb165) (o := .cells #[.int .u16 a0_0, .int .u8 a0_1, .slice A0_2 l0_2.length c0_2] 26 (0, 0)) (by (with_reducible repeat (first | refine blk_drewN ?_ _ | refine blk_drew ?_ | refine blk_alloc ?_ _)); exact BK165.out) hb); have n2_ := Aside0.mk (below_step (by repeat (first | (with_reducible first | exact HB.out | apply below_alloc | apply pw_below_drewN | apply below_drew1 | refine below_set ?_ GE165.out) | exact HB.out)) hb); clear BK165; clear HB; have HO168 := n0_; have BK165 := n1_; have HB := n2_; clear n0_ n1_ n2_; clear hb ho12; have hcz13_0 : w11.cell? ⟨gb165, 0, none⟩ = some (.int .u16 a0_0) := (blk_cell BK165.out 0).trans rfl; have hcz13_1 : w11.cell? ⟨gb165, 1, none⟩ = some (.int .u8 a0_1) := (blk_cell BK165.out 1).trans rfl; have hcz13_2 : w11.cell? ⟨gb165, 2, none⟩ = some (.slice A0_2 l0_2.length c0_2) := (blk_cell BK165.out 2).trans rfl; have hfz13_0 := blk_frozen BK165.out 0; have hfz13_1 := blk_frozen BK165.out 1; have hfz13_2 := blk_frozen BK165.out 2) | ((with_reducible refine gate_builtin (b := .append) (xs := #[.tmp 32, .tmp 34]) rfl ?_); (try (refine gate_guard (by rfl) ?_; dsimp only)); at_builtin; refine Kd.R_append_rows (Kd.int .u8) (w0 := w) w.heap.size rfl (.tmp 32) (.tmp 34) 22 5 (.int .u8 0) 1 rfl Try.underlying22 info5 rfl (by decide) (by omega) v167 y166 l0_2 _ _ _ (fun _ => True) (fun _ => False) rfl rfl ?aO ?aR (fun _ _ h => h) (fun _ h => h.elim) ?aF ?aB ?aS ?aL ?_; (case aR => repeat (first | exact (Kd.C_below HR0_2.out HB.out) | (with_reducible refine Kd.C_alloc ?_ _) | (with_reducible refine Kd.C_drewN ?_ _) | (with_reducible refine Kd.C_drew ?_))); (case aB => exact (by repeat (first | (with_reducible first | exact HB.out | apply below_alloc | apply pw_below_drewN | apply below_drew1 | refine below_set ?_ GE165.out) | exact HB.out))); (case aF => exact (fun _ _ => trivial)); (case aO => exact (by (with_reducible repeat (first | apply Kd.R_alloc | apply Kd.R_drewN | apply Kd.R_drew)); exact HO168.out)); (case aS => exact (below_size (by repeat (first | (with_reducible first | exact HB.out | apply below_alloc | apply pw_below_drewN | apply below_drew1 | refine below_set ?_ GE165.out) | exact HB.out)))); (case aL => have := LMc8.out; omega); intro v170 w14 ho hb hg hat; rw [← Ny169.out] at ho; have n0_ := Aside0.mk (blk_grown (g := gb165) (o := .cells #[.int .u16 a0_0, .int .u8 a0_1, .slice A0_2 l0_2.length c0_2] 26 (0, 0)) (by (with_reducible repeat (first | refine blk_drewN ?_ _ | refine blk_drew ?_ | refine blk_alloc ?_ _)); exact BK165.out) hg (Kd.R_ne HO168.out BK165.out (by decide))); have n1_ := Aside0.mk (hb); have n2_ := Aside0.mk (ho); clear BK165; clear HB; clear HO168; have BK165 := n0_; have HB := n1_; have HO171 := n2_; clear n0_ n1_ n2_; clear ho hb hg hat))
        go_ret
        exact ⟨_, by first | rfl | (simp [errW_none, errW_some] <;> rfl) | (simp [*, errW_none, errW_some] <;> rfl), by (with_reducible repeat (first | apply Kd.R_alloc | apply Kd.R_drewN | apply Kd.R_drew)); exact HO171.out, by repeat (first | (with_reducible first | exact HB.out | apply below_alloc | apply pw_below_drewN | apply below_drew1 | refine below_set ?_ GE165.out) | exact HB.out)⟩
      · rw [if_neg c8] at H
        exact absurd H (by simp)

/-! ### watchkeeperref03_Same: function 17 -/
def watchkeeperref03_Same.f (a0_0 : Int) (a0_1 : Int) (l0_2 : List Int) (a1_0 : Int) (a1_1 : Int) (l1_2 : List Int) : Option (Bool) := if a0_0 = a1_0 then (if a0_1 = a1_1 then (some ((strOfNums l0_2).toList == (strOfNums l1_2).toList)) else (some false)) else (some false)
set_option maxHeartbeats 8000000 in
set_option maxRecDepth 100000 in
theorem watchkeeperref03_Same.calls (a0_0 : Int) (a0_1 : Int) (A0_2 : Option Addr) (c0_2 : Nat) (l0_2 : List Int) (a1_0 : Int) (a1_1 : Int) (A1_2 : Option Addr) (c1_2 : Nat) (l1_2 : List Int) (r : Bool) (w : World) (hr0_2 : Kd.C (Kd.int .u8) w A0_2 l0_2.length l0_2) (hc0_2 : l0_2.length ≤ c0_2) (hr1_2 : Kd.C (Kd.int .u8) w A1_2 l1_2.length l1_2) (hc1_2 : l1_2.length ≤ c1_2) (h : watchkeeperref03_Same.f a0_0 a0_1 l0_2 a1_0 a1_1 l1_2 = some r) :
    Calls Try.prog 17 #[.agg #[.int .u16 a0_0, .int .u8 a0_1, .slice A0_2 l0_2.length c0_2], .agg #[.int .u16 a1_0, .int .u8 a1_1, .slice A1_2 l1_2.length c1_2]] w fun e w' => e = .returned (.bool r) ∧ Below w.heap.size w w' := by
  have hu26 := Try.underlying26
  have HR0_2 := Aside0.mk hr0_2
  have HC0_2 := Aside0.mk hc0_2
  clear hr0_2 hc0_2
  have HR1_2 := Aside0.mk hr1_2
  have HC1_2 := Aside0.mk hc1_2
  clear hr1_2 hc1_2
  have HB := Aside0.mk (Below.refl w.heap.size w)
  have H : (if a0_0 = a1_0 then (if a0_1 = a1_1 then (some ((strOfNums l0_2).toList == (strOfNums l1_2).toList)) else (some false)) else (some false)) = some r := h
  clear h
  by_cases c3 : a0_0 = a1_0
  · rw [if_pos c3] at H
    have c3b0 : (a0_0 == a1_0) = true := beq_iff_eq.mpr c3
    have c3b1 : (a0_0 != a1_0) = false := bne_eq_false_iff_eq.mpr c3
    clear c3
    by_cases c4 : a0_1 = a1_1
    · rw [if_pos c4] at H
      have c4b0 : (a0_1 == a1_1) = true := beq_iff_eq.mpr c4
      have c4b1 : (a0_1 != a1_1) = false := bne_eq_false_iff_eq.mpr c4
      clear c4
      obtain rfl := Option.some.inj H
      go_enter Try.func17, Try.ntmps17
      go_wp2_with (first | ((with_reducible refine gate_dst (N := 2) rfl ?_); refine box_event ?hg (N := 2) ?hd (cs := #[.int .u16 a0_0, .int .u8 a0_1, .slice A0_2 l0_2.length c0_2]) (t := 26) ?hr ?_; (case hd => rfl); (case hg => rfl); (case hr => first | (go_simp; done) | (go_simp; rfl)); intro gb172 hg w5 hbox hb; have n0_ := Aside0.mk (below_step (by repeat (first | (with_reducible first | exact HB.out | apply below_alloc | apply pw_below_drewN | apply below_drew1) | exact HB.out)) hb); have n1_ := Aside0.mk (hbox); have n2_ := Aside0.mk ((by rw [hg]; exact (below_size (by repeat (first | (with_reducible first | exact HB.out | apply below_alloc | apply pw_below_drewN | apply below_drew1) | exact HB.out))) : w.heap.size ≤ gb172)); have n3_ := Aside0.mk ((by rw [hg]; exact (below_size (by repeat (first | (with_reducible first | exact HB.out | apply below_alloc | apply pw_below_drewN | apply below_drew1) | exact HB.out))) : w.heap.size ≤ gb172)); clear HB; have HB := n0_; have BK172 := n1_; have GW172 := n2_; have GE172 := n3_; clear n0_ n1_ n2_ n3_; clear hb hbox hg) | ((with_reducible refine gate_dst (N := 3) rfl ?_); refine box_event ?hg (N := 3) ?hd (cs := #[.int .u16 a1_0, .int .u8 a1_1, .slice A1_2 l1_2.length c1_2]) (t := 26) ?hr ?_; (case hd => rfl); (case hg => rfl); (case hr => first | (go_simp; done) | (go_simp; rfl)); intro gb173 hg w6 hbox hb; have n0_ := Aside0.mk (blk_below (g := gb172) (o := .cells #[.int .u16 a0_0, .int .u8 a0_1, .slice A0_2 l0_2.length c0_2] 26 (0, 0)) (by (with_reducible repeat (first | refine blk_drewN ?_ _ | refine blk_drew ?_ | refine blk_alloc ?_ _)); exact BK172.out) hb); have n1_ := Aside0.mk (below_step (by repeat (first | (with_reducible first | exact HB.out | apply below_alloc | apply pw_below_drewN | apply below_drew1 | refine below_set ?_ GE172.out) | exact HB.out)) hb); have n2_ := Aside0.mk (hbox); have n3_ := Aside0.mk ((by rw [hg]; exact (below_size (by repeat (first | (with_reducible first | exact HB.out | apply below_alloc | apply pw_below_drewN | apply below_drew1 | refine below_set ?_ GE172.out) | exact HB.out))) : w.heap.size ≤ gb173)); have n4_ := Aside0.mk ((by rw [hg]; exact (below_size (by repeat (first | (with_reducible first | exact HB.out | apply below_alloc | apply pw_below_drewN | apply below_drew1 | refine below_set ?_ GE172.out) | exact HB.out))) : w.heap.size ≤ gb173)); have n5_ := Aside0.mk ((by rw [hg]; exact Nat.ne_of_lt (blk_lt (g := gb172) (o := .cells #[.int .u16 a0_0, .int .u8 a0_1, .slice A0_2 l0_2.length c0_2] 26 (0, 0)) (by (with_reducible repeat (first | refine blk_drewN ?_ _ | refine blk_drew ?_ | refine blk_alloc ?_ _)); exact BK172.out)) : gb172 ≠ gb173)); have n6_ := Aside0.mk ((by rw [hg]; exact Nat.ne_of_gt (blk_lt (g := gb172) (o := .cells #[.int .u16 a0_0, .int .u8 a0_1, .slice A0_2 l0_2.length c0_2] 26 (0, 0)) (by (with_reducible repeat (first | refine blk_drewN ?_ _ | refine blk_drew ?_ | refine blk_alloc ?_ _)); exact BK172.out)) : gb173 ≠ gb172)); clear BK172; clear HB; have BK172 := n0_; have HB := n1_; have BK173 := n2_; have GW173 := n3_; have GE173 := n4_; have NB172_173 := n5_; have NB173_172 := n6_; clear n0_ n1_ n2_ n3_ n4_ n5_ n6_; clear hb hbox hg; have hnb7 := NB172_173.out; have hnc7 := NB173_172.out; have hcz8_0 : w6.cell? ⟨gb172, 0, none⟩ = some (.int .u16 a0_0) := (blk_cell BK172.out 0).trans rfl; have hcz8_1 : w6.cell? ⟨gb172, 1, none⟩ = some (.int .u8 a0_1) := (blk_cell BK172.out 1).trans rfl; have hcz8_2 : w6.cell? ⟨gb172, 2, none⟩ = some (.slice A0_2 l0_2.length c0_2) := (blk_cell BK172.out 2).trans rfl; have hfz8_0 := blk_frozen BK172.out 0; have hfz8_1 := blk_frozen BK172.out 1; have hfz8_2 := blk_frozen BK172.out 2; have hcz9_0 : w6.cell? ⟨gb173, 0, none⟩ = some (.int .u16 a1_0) := (blk_cell BK173.out 0).trans rfl; have hcz9_1 : w6.cell? ⟨gb173, 1, none⟩ = some (.int .u8 a1_1) := (blk_cell BK173.out 1).trans rfl; have hcz9_2 : w6.cell? ⟨gb173, 2, none⟩ = some (.slice A1_2 l1_2.length c1_2) := (blk_cell BK173.out 2).trans rfl; have hfz9_0 := blk_frozen BK173.out 0; have hfz9_1 := blk_frozen BK173.out 1; have hfz9_2 := blk_frozen BK173.out 2; have hcv10 := Kd.C_string (P := Try.prog) (A := A0_2) (c := c0_2) Try.underlying22 Try.underlying5 Try.underlying9 (Kd.C_below HR0_2.out HB.out); have hcv11 := Kd.C_string (P := Try.prog) (A := A1_2) (c := c1_2) Try.underlying22 Try.underlying5 Try.underlying9 (Kd.C_below HR1_2.out HB.out)))
      go_ret
      exact ⟨by first | rfl | (simp [errW_none, errW_some] <;> rfl) | (simp [*, errW_none, errW_some] <;> rfl), by repeat (first | (with_reducible first | exact HB.out | apply below_alloc | apply pw_below_drewN | apply below_drew1 | refine below_set ?_ GE172.out | refine below_set ?_ GE173.out) | exact HB.out)⟩
    · rw [if_neg c4] at H
      have c4b0 : (a0_1 == a1_1) = false := beq_eq_false_iff_ne.mpr c4
      have c4b1 : (a0_1 != a1_1) = true := bne_iff_ne.mpr c4
      obtain rfl := Option.some.inj H
      go_enter Try.func17, Try.ntmps17
      go_wp2_with (first | ((with_reducible refine gate_dst (N := 2) rfl ?_); refine box_event ?hg (N := 2) ?hd (cs := #[.int .u16 a0_0, .int .u8 a0_1, .slice A0_2 l0_2.length c0_2]) (t := 26) ?hr ?_; (case hd => rfl); (case hg => rfl); (case hr => first | (go_simp; done) | (go_simp; rfl)); intro gb172 hg w12 hbox hb; have n0_ := Aside0.mk (below_step (by repeat (first | (with_reducible first | exact HB.out | apply below_alloc | apply pw_below_drewN | apply below_drew1) | exact HB.out)) hb); have n1_ := Aside0.mk (hbox); have n2_ := Aside0.mk ((by rw [hg]; exact (below_size (by repeat (first | (with_reducible first | exact HB.out | apply below_alloc | apply pw_below_drewN | apply below_drew1) | exact HB.out))) : w.heap.size ≤ gb172)); have n3_ := Aside0.mk ((by rw [hg]; exact (below_size (by repeat (first | (with_reducible first | exact HB.out | apply below_alloc | apply pw_below_drewN | apply below_drew1) | exact HB.out))) : w.heap.size ≤ gb172)); clear HB; have HB := n0_; have BK172 := n1_; have GW172 := n2_; have GE172 := n3_; clear n0_ n1_ n2_ n3_; clear hb hbox hg) | ((with_reducible refine gate_dst (N := 3) rfl ?_); refine box_event ?hg (N := 3) ?hd (cs := #[.int .u16 a1_0, .int .u8 a1_1, .slice A1_2 l1_2.length c1_2]) (t := 26) ?hr ?_; (case hd => rfl); (case hg => rfl); (case hr => first | (go_simp; done) | (go_simp; rfl)); intro gb173 hg w13 hbox hb; have n0_ := Aside0.mk (blk_below (g := gb172) (o := .cells #[.int .u16 a0_0, .int .u8 a0_1, .slice A0_2 l0_2.length c0_2] 26 (0, 0)) (by (with_reducible repeat (first | refine blk_drewN ?_ _ | refine blk_drew ?_ | refine blk_alloc ?_ _)); exact BK172.out) hb); have n1_ := Aside0.mk (below_step (by repeat (first | (with_reducible first | exact HB.out | apply below_alloc | apply pw_below_drewN | apply below_drew1 | refine below_set ?_ GE172.out) | exact HB.out)) hb); have n2_ := Aside0.mk (hbox); have n3_ := Aside0.mk ((by rw [hg]; exact (below_size (by repeat (first | (with_reducible first | exact HB.out | apply below_alloc | apply pw_below_drewN | apply below_drew1 | refine below_set ?_ GE172.out) | exact HB.out))) : w.heap.size ≤ gb173)); have n4_ := Aside0.mk ((by rw [hg]; exact (below_size (by repeat (first | (with_reducible first | exact HB.out | apply below_alloc | apply pw_below_drewN | apply below_drew1 | refine below_set ?_ GE172.out) | exact HB.out))) : w.heap.size ≤ gb173)); have n5_ := Aside0.mk ((by rw [hg]; exact Nat.ne_of_lt (blk_lt (g := gb172) (o := .cells #[.int .u16 a0_0, .int .u8 a0_1, .slice A0_2 l0_2.length c0_2] 26 (0, 0)) (by (with_reducible repeat (first | refine blk_drewN ?_ _ | refine blk_drew ?_ | refine blk_alloc ?_ _)); exact BK172.out)) : gb172 ≠ gb173)); have n6_ := Aside0.mk ((by rw [hg]; exact Nat.ne_of_gt (blk_lt (g := gb172) (o := .cells #[.int .u16 a0_0, .int .u8 a0_1, .slice A0_2 l0_2.length c0_2] 26 (0, 0)) (by (with_reducible repeat (first | refine blk_drewN ?_ _ | refine blk_drew ?_ | refine blk_alloc ?_ _)); exact BK172.out)) : gb173 ≠ gb172)); clear BK172; clear HB; have BK172 := n0_; have HB := n1_; have BK173 := n2_; have GW173 := n3_; have GE173 := n4_; have NB172_173 := n5_; have NB173_172 := n6_; clear n0_ n1_ n2_ n3_ n4_ n5_ n6_; clear hb hbox hg; have hnb14 := NB172_173.out; have hnc14 := NB173_172.out; have hcz15_0 : w13.cell? ⟨gb172, 0, none⟩ = some (.int .u16 a0_0) := (blk_cell BK172.out 0).trans rfl; have hcz15_1 : w13.cell? ⟨gb172, 1, none⟩ = some (.int .u8 a0_1) := (blk_cell BK172.out 1).trans rfl; have hcz15_2 : w13.cell? ⟨gb172, 2, none⟩ = some (.slice A0_2 l0_2.length c0_2) := (blk_cell BK172.out 2).trans rfl; have hfz15_0 := blk_frozen BK172.out 0; have hfz15_1 := blk_frozen BK172.out 1; have hfz15_2 := blk_frozen BK172.out 2; have hcz16_0 : w13.cell? ⟨gb173, 0, none⟩ = some (.int .u16 a1_0) := (blk_cell BK173.out 0).trans rfl; have hcz16_1 : w13.cell? ⟨gb173, 1, none⟩ = some (.int .u8 a1_1) := (blk_cell BK173.out 1).trans rfl; have hcz16_2 : w13.cell? ⟨gb173, 2, none⟩ = some (.slice A1_2 l1_2.length c1_2) := (blk_cell BK173.out 2).trans rfl; have hfz16_0 := blk_frozen BK173.out 0; have hfz16_1 := blk_frozen BK173.out 1; have hfz16_2 := blk_frozen BK173.out 2))
      go_ret
      exact ⟨by first | rfl | (simp [errW_none, errW_some] <;> rfl) | (simp [*, errW_none, errW_some] <;> rfl), by repeat (first | (with_reducible first | exact HB.out | apply below_alloc | apply pw_below_drewN | apply below_drew1 | refine below_set ?_ GE172.out | refine below_set ?_ GE173.out) | exact HB.out)⟩
  · rw [if_neg c3] at H
    have c3b0 : (a0_0 == a1_0) = false := beq_eq_false_iff_ne.mpr c3
    have c3b1 : (a0_0 != a1_0) = true := bne_iff_ne.mpr c3
    obtain rfl := Option.some.inj H
    go_enter Try.func17, Try.ntmps17
    go_wp2_with (first | ((with_reducible refine gate_dst (N := 2) rfl ?_); refine box_event ?hg (N := 2) ?hd (cs := #[.int .u16 a0_0, .int .u8 a0_1, .slice A0_2 l0_2.length c0_2]) (t := 26) ?hr ?_; (case hd => rfl); (case hg => rfl); (case hr => first | (go_simp; done) | (go_simp; rfl)); intro gb172 hg w17 hbox hb; have n0_ := Aside0.mk (below_step (by repeat (first | (with_reducible first | exact HB.out | apply below_alloc | apply pw_below_drewN | apply below_drew1) | exact HB.out)) hb); have n1_ := Aside0.mk (hbox); have n2_ := Aside0.mk ((by rw [hg]; exact (below_size (by repeat (first | (with_reducible first | exact HB.out | apply below_alloc | apply pw_below_drewN | apply below_drew1) | exact HB.out))) : w.heap.size ≤ gb172)); have n3_ := Aside0.mk ((by rw [hg]; exact (below_size (by repeat (first | (with_reducible first | exact HB.out | apply below_alloc | apply pw_below_drewN | apply below_drew1) | exact HB.out))) : w.heap.size ≤ gb172)); clear HB; have HB := n0_; have BK172 := n1_; have GW172 := n2_; have GE172 := n3_; clear n0_ n1_ n2_ n3_; clear hb hbox hg) | ((with_reducible refine gate_dst (N := 3) rfl ?_); refine box_event ?hg (N := 3) ?hd (cs := #[.int .u16 a1_0, .int .u8 a1_1, .slice A1_2 l1_2.length c1_2]) (t := 26) ?hr ?_; (case hd => rfl); (case hg => rfl); (case hr => first | (go_simp; done) | (go_simp; rfl)); intro gb173 hg w18 hbox hb; have n0_ := Aside0.mk (blk_below (g := gb172) (o := .cells #[.int .u16 a0_0, .int .u8 a0_1, .slice A0_2 l0_2.length c0_2] 26 (0, 0)) (by (with_reducible repeat (first | refine blk_drewN ?_ _ | refine blk_drew ?_ | refine blk_alloc ?_ _)); exact BK172.out) hb); have n1_ := Aside0.mk (below_step (by repeat (first | (with_reducible first | exact HB.out | apply below_alloc | apply pw_below_drewN | apply below_drew1 | refine below_set ?_ GE172.out) | exact HB.out)) hb); have n2_ := Aside0.mk (hbox); have n3_ := Aside0.mk ((by rw [hg]; exact (below_size (by repeat (first | (with_reducible first | exact HB.out | apply below_alloc | apply pw_below_drewN | apply below_drew1 | refine below_set ?_ GE172.out) | exact HB.out))) : w.heap.size ≤ gb173)); have n4_ := Aside0.mk ((by rw [hg]; exact (below_size (by repeat (first | (with_reducible first | exact HB.out | apply below_alloc | apply pw_below_drewN | apply below_drew1 | refine below_set ?_ GE172.out) | exact HB.out))) : w.heap.size ≤ gb173)); have n5_ := Aside0.mk ((by rw [hg]; exact Nat.ne_of_lt (blk_lt (g := gb172) (o := .cells #[.int .u16 a0_0, .int .u8 a0_1, .slice A0_2 l0_2.length c0_2] 26 (0, 0)) (by (with_reducible repeat (first | refine blk_drewN ?_ _ | refine blk_drew ?_ | refine blk_alloc ?_ _)); exact BK172.out)) : gb172 ≠ gb173)); have n6_ := Aside0.mk ((by rw [hg]; exact Nat.ne_of_gt (blk_lt (g := gb172) (o := .cells #[.int .u16 a0_0, .int .u8 a0_1, .slice A0_2 l0_2.length c0_2] 26 (0, 0)) (by (with_reducible repeat (first | refine blk_drewN ?_ _ | refine blk_drew ?_ | refine blk_alloc ?_ _)); exact BK172.out)) : gb173 ≠ gb172)); clear BK172; clear HB; have BK172 := n0_; have HB := n1_; have BK173 := n2_; have GW173 := n3_; have GE173 := n4_; have NB172_173 := n5_; have NB173_172 := n6_; clear n0_ n1_ n2_ n3_ n4_ n5_ n6_; clear hb hbox hg; have hnb19 := NB172_173.out; have hnc19 := NB173_172.out; have hcz20_0 : w18.cell? ⟨gb172, 0, none⟩ = some (.int .u16 a0_0) := (blk_cell BK172.out 0).trans rfl; have hcz20_1 : w18.cell? ⟨gb172, 1, none⟩ = some (.int .u8 a0_1) := (blk_cell BK172.out 1).trans rfl; have hcz20_2 : w18.cell? ⟨gb172, 2, none⟩ = some (.slice A0_2 l0_2.length c0_2) := (blk_cell BK172.out 2).trans rfl; have hfz20_0 := blk_frozen BK172.out 0; have hfz20_1 := blk_frozen BK172.out 1; have hfz20_2 := blk_frozen BK172.out 2; have hcz21_0 : w18.cell? ⟨gb173, 0, none⟩ = some (.int .u16 a1_0) := (blk_cell BK173.out 0).trans rfl; have hcz21_1 : w18.cell? ⟨gb173, 1, none⟩ = some (.int .u8 a1_1) := (blk_cell BK173.out 1).trans rfl; have hcz21_2 : w18.cell? ⟨gb173, 2, none⟩ = some (.slice A1_2 l1_2.length c1_2) := (blk_cell BK173.out 2).trans rfl; have hfz21_0 := blk_frozen BK173.out 0; have hfz21_1 := blk_frozen BK173.out 1; have hfz21_2 := blk_frozen BK173.out 2))
    go_ret
    exact ⟨by first | rfl | (simp [errW_none, errW_some] <;> rfl) | (simp [*, errW_none, errW_some] <;> rfl), by repeat (first | (with_reducible first | exact HB.out | apply below_alloc | apply pw_below_drewN | apply below_drew1 | refine below_set ?_ GE172.out | refine below_set ?_ GE173.out) | exact HB.out)⟩

/-! ### watchkeeperref03_SameAll: function 18 -/
def watchkeeperref03_SameAll.l0 : Nat → List (S26) → List (S26) → Int → Option (Bool)
  | 0, _, _, _ => none
  | k + 1, x0, x1, x5 => if x5 < (x0.length : Int) then (if 0 ≤ x5 then (if x5 < (x1.length : Int) then ((watchkeeperref03_Same.f ((rd_T26 x0 x5).f0) ((rd_T26 x0 x5).f1) ((rd_T26 x0 x5).f2) ((rd_T26 x1 x5).f0) ((rd_T26 x1 x5).f1) ((rd_T26 x1 x5).f2)).bind fun t176 => (if t176 = true then (watchkeeperref03_SameAll.l0 k x0 x1 (wrap64 (x5 + 1))) else (some false))) else (none)) else (none)) else (some true)
def watchkeeperref03_SameAll.f (k : Nat) (l0 : List (S26)) (l1 : List (S26)) : Option (Bool) := if (l0.length : Int) = (l1.length : Int) then (watchkeeperref03_SameAll.l0 k l0 l1 0) else (some false)
theorem watchkeeperref03_SameAll.mono_l : ∀ k, (∀ y0 y1 y2, LeO (watchkeeperref03_SameAll.l0 k y0 y1 y2) (watchkeeperref03_SameAll.l0 (k + 1) y0 y1 y2))
  | 0 => fun _ _ _ r h => by simp [watchkeeperref03_SameAll.l0] at h
  | k + 1 => by
    have ih0 := watchkeeperref03_SameAll.mono_l k
    · intro y0 y1 y2
      unfold watchkeeperref03_SameAll.l0
      repeat' first
      | (with_reducible exact ih0 _ _ _)
      | (with_reducible exact LeO.refl _)
      | (with_reducible exact LeO.none _)
      | (with_reducible refine LeO.ite ?_ ?_)
      | (with_reducible refine LeO.bind ?_ (fun _ => ?_))
      | exact ih0 _ _ _
      | exact LeO.none _
      | refine LeO.ite ?_ ?_
      | refine LeO.bind ?_ (fun _ => ?_)
theorem watchkeeperref03_SameAll.mono : ∀ a0 a1 k, LeO (watchkeeperref03_SameAll.f k a0 a1) (watchkeeperref03_SameAll.f (k + 1) a0 a1) := by
  intro a0 a1 k
  have ih0 := watchkeeperref03_SameAll.mono_l k
  unfold watchkeeperref03_SameAll.f
  repeat' first
      | (with_reducible exact ih0 _ _ _)
      | (with_reducible exact LeO.refl _)
      | (with_reducible exact LeO.none _)
      | (with_reducible refine LeO.ite ?_ ?_)
      | (with_reducible refine LeO.bind ?_ (fun _ => ?_))
      | exact ih0 _ _ _
      | exact LeO.none _
      | refine LeO.ite ?_ ?_
      | refine LeO.bind ?_ (fun _ => ?_)
def watchkeeperref03_SameAll.T6 : Bool × List (List Nat × List Nat) := (true, [([], []), ([], []), ([0, 1], [0, 1]), ([2], [2]), ([], []), ([], []), ([4, 5], [4, 5]), ([6], [6]), ([3, 7], [3, 7]), ([8], [8])])
def watchkeeperref03_SameAll.B6 : List Nat := [0, 0, 3, 7, 0, 0, 48, 112, 255, 511]
theorem watchkeeperref03_SameAll.tab6 : rtab .any (opsOf Try.f18 6) = watchkeeperref03_SameAll.T6 := by kernel_rfl
theorem watchkeeperref03_SameAll.bits6 : waitsOk watchkeeperref03_SameAll.T6.2 watchkeeperref03_SameAll.B6 = true := by kernel_rfl
set_option maxHeartbeats 8000000 in
set_option maxRecDepth 100000 in
theorem watchkeeperref03_SameAll.calls (k : Nat) (A0 : Option Addr) (c0 : Nat) (l0 : List (S26)) (A1 : Option Addr) (c1 : Nat) (l1 : List (S26)) (r : Bool) (w : World) (hr0 : Kd.C k26 w A0 l0.length l0) (hc0 : l0.length ≤ c0) (hr1 : Kd.C k26 w A1 l1.length l1) (hc1 : l1.length ≤ c1) (h : watchkeeperref03_SameAll.f k l0 l1 = some r) :
    Calls Try.prog 18 #[.slice A0 l0.length c0, .slice A1 l1.length c1] w fun e w' => e = .returned (.bool r) ∧ Below w.heap.size w w' := by
  have hu26 := Try.underlying26
  have HR0 := Aside0.mk hr0
  have HC0 := Aside0.mk hc0
  clear hr0 hc0
  have HR1 := Aside0.mk hr1
  have HC1 := Aside0.mk hc1
  clear hr1 hc1
  have HB := Aside0.mk (Below.refl w.heap.size w)
  have H : (if (l0.length : Int) = (l1.length : Int) then (watchkeeperref03_SameAll.l0 k l0 l1 0) else (some false)) = some r := h
  clear h
  by_cases c3 : (l0.length : Int) = (l1.length : Int)
  · rw [if_pos c3] at H
    have c3b0 : ((l0.length : Int) == (l1.length : Int)) = true := beq_iff_eq.mpr c3
    have c3b1 : ((l0.length : Int) != (l1.length : Int)) = false := bne_eq_false_iff_eq.mpr c3
    have c3b2 : (l0.length == l1.length) = true := by first | simpa using c3 | (simp at c3 ⊢; omega)
    clear c3
    have H' := Aside0.mk H
    clear H
    go_enter Try.func18, Try.ntmps18
    go_wp2
    go_loopg [5] k (fun kq v5 w' => ∃ (x5_1 : Int), v5 = .int .i64 x5_1 ∧ Aside0 (watchkeeperref03_SameAll.l0 kq l0 l1 x5_1 = some r) ∧ Aside0 (kq ≤ k) ∧ Aside0 (Below w.heap.size w w'))
    case atStart => exact ⟨(0), (by first | rfl | (simp; done) | (simp [*]; done)), H', ⟨Nat.le_refl _⟩, ⟨by repeat (first | (with_reducible first | exact HB.out | apply below_alloc | apply pw_below_drewN | apply below_drew1) | exact HB.out)⟩⟩
    case round =>
      clear H'
      try clear c1
      try clear p2
      try clear c3
      try clear c3b0
      try clear c3b1
      try clear c3b2
      obtain ⟨x5_1, rfl, HA, HK1, HB⟩ := hrel
      cases gk with
      | zero => exact absurd HA.out (by simp [watchkeeperref03_SameAll.l0])
      | succ k1 =>
        have H := HA.out
        clear HA
        simp only [watchkeeperref03_SameAll.l0] at H
        by_cases c4 : x5_1 < (l0.length : Int)
        · rw [if_pos c4] at H
          have c4b0 : decide (x5_1 < (l0.length : Int)) = true := decide_eq_true c4
          clear c4
          by_cases c5 : 0 ≤ x5_1
          · rw [if_pos c5] at H
            have c5b0 : decide (0 ≤ x5_1) = true := decide_eq_true c5
            clear c5
            by_cases c6 : x5_1 < (l1.length : Int)
            · rw [if_pos c6] at H
              have c6b0 : decide (x5_1 < (l1.length : Int)) = true := decide_eq_true c6
              clear c6
              replace H := Option.bind_eq_some_iff.mp H
              obtain ⟨t176, A70, H⟩ := H
              replace H : (if t176 = true then (watchkeeperref03_SameAll.l0 k1 l0 l1 (wrap64 (x5_1 + 1))) else (some false)) = some r := H
              have A7 := Aside0.mk A70
              clear A70
              by_cases c8 : t176 = true
              · subst c8
                have H1 : (watchkeeperref03_SameAll.l0 k1 l0 l1 (wrap64 (x5_1 + 1))) = some r := by rw [if_pos rfl] at H; exact H
                clear H
                have H := H1
                clear H1
                have H' := Aside0.mk H
                clear H
                try go_wp2
                have n0_ := Aside0.mk (below_drew1 HB.out)
                clear HB
                have HB := n0_
                clear n0_
                have p174 : 0 ≤ (x5_1 : Int) := of_decide_eq_true (by first | (with_reducible assumption) | assumption)
                have q174 : x5_1 < (l0.length : Int) := of_decide_eq_true (by first | (with_reducible assumption) | assumption)
                obtain ⟨ad174, A174_2, c174_2, e174, hx174_0, hx174_1, hx174_2, hl174_2, hi174_2⟩ := at_T26 HR0.out x5_1 p174 q174
                have hw174_2 := hx174_2
                have hw174_1 := hx174_1
                have hw174_0 := hx174_0
                cases e174
                replace hx174_0 := (HB.out.cell (World.block_lt_of_cell? w _ hx174_0)).trans hx174_0
                replace hx174_1 := (HB.out.cell (World.block_lt_of_cell? w _ hx174_1)).trans hx174_1
                replace hx174_2 := (HB.out.cell (World.block_lt_of_cell? w _ hx174_2)).trans hx174_2
                have HR174_2 := Aside0.mk hi174_2
                have HC174_2 := Aside0.mk hl174_2
                clear hi174_2 hl174_2
                replace p174 := eq_true p174
                replace q174 := eq_true q174
                have p175 : 0 ≤ (x5_1 : Int) := of_decide_eq_true (by first | (with_reducible assumption) | assumption)
                have q175 : x5_1 < (l1.length : Int) := of_decide_eq_true (by first | (with_reducible assumption) | assumption)
                obtain ⟨ad175, A175_2, c175_2, e175, hx175_0, hx175_1, hx175_2, hl175_2, hi175_2⟩ := at_T26 HR1.out x5_1 p175 q175
                have hw175_2 := hx175_2
                have hw175_1 := hx175_1
                have hw175_0 := hx175_0
                cases e175
                replace hx175_0 := (HB.out.cell (World.block_lt_of_cell? w _ hx175_0)).trans hx175_0
                replace hx175_1 := (HB.out.cell (World.block_lt_of_cell? w _ hx175_1)).trans hx175_1
                replace hx175_2 := (HB.out.cell (World.block_lt_of_cell? w _ hx175_2)).trans hx175_2
                have HR175_2 := Aside0.mk hi175_2
                have HC175_2 := Aside0.mk hl175_2
                clear hi175_2 hl175_2
                replace p175 := eq_true p175
                replace q175 := eq_true q175
                refine start_ (n := 10) (S := fun w' => w'.cell? (ad174.add ((x5_1).toNat * 3)) = some (.int .u16 ((rd_T26 l0 x5_1).f0)) ∧ w'.cell? ⟨(ad174.add ((x5_1).toNat * 3)).block, (ad174.add ((x5_1).toNat * 3)).off + 1, none⟩ = some (.int .u8 ((rd_T26 l0 x5_1).f1)) ∧ w'.cell? ⟨(ad174.add ((x5_1).toNat * 3)).block, (ad174.add ((x5_1).toNat * 3)).off + 2, none⟩ = some (.slice A174_2 ((rd_T26 l0 x5_1).f2).length c174_2) ∧ w'.cell? (ad175.add ((x5_1).toNat * 3)) = some (.int .u16 ((rd_T26 l1 x5_1).f0)) ∧ w'.cell? ⟨(ad175.add ((x5_1).toNat * 3)).block, (ad175.add ((x5_1).toNat * 3)).off + 1, none⟩ = some (.int .u8 ((rd_T26 l1 x5_1).f1)) ∧ w'.cell? ⟨(ad175.add ((x5_1).toNat * 3)).block, (ad175.add ((x5_1).toNat * 3)).off + 2, none⟩ = some (.slice A175_2 ((rd_T26 l1 x5_1).f2).length c175_2)) (ds := []) #[false, false, false, false, false, false, false, false, false, false] (by kernel_rfl) rfl rfl ⟨((HB.out.cell (World.block_lt_of_cell? w _ hw174_0)).trans hw174_0), ((HB.out.cell (World.block_lt_of_cell? w _ hw174_1)).trans hw174_1), ((HB.out.cell (World.block_lt_of_cell? w _ hw174_2)).trans hw174_2), ((HB.out.cell (World.block_lt_of_cell? w _ hw175_0)).trans hw175_0), ((HB.out.cell (World.block_lt_of_cell? w _ hw175_1)).trans hw175_1), ((HB.out.cell (World.block_lt_of_cell? w _ hw175_2)).trans hw175_2)⟩ (fun hHeld => ?_); refine with_tabW watchkeeperref03_SameAll.tab6 watchkeeperref03_SameAll.bits6 (fun HT_ HW_ => ?_)
                generalize wr.drew = w9 at HB HR174_2 HR175_2 hx174_0 hx174_1 hx174_2 hx175_0 hx175_1 hx175_2 hHeld ⊢
                refine pure_ (i := 0) (N := some 17) (v := ?_) (a' := ?_) #[true, false, false, false, false, false, false, false, false, false] rfl rfl (any_of HT_.out (by kernel_rfl)) (fun _ _ _ h => h) (Or.inl ⟨by rfl, ?_⟩) ?_ ?_
                rotate_left
                · intro w'
                  go_simp
                  with_reducible rfl
                rotate_left
                · simp only [Act.put, List.setIfInBounds_toArray, List.set_cons_zero, List.set_cons_succ, i64_w, i32_w]
                  rfl
                refine pure_ (i := 1) (N := some 18) (v := ?_) (a' := ?_) #[true, true, false, false, false, false, false, false, false, false] rfl rfl (any_of HT_.out (by kernel_rfl)) (fun _ _ _ h => h) (Or.inl ⟨by rfl, ?_⟩) ?_ ?_
                rotate_left
                · intro w'
                  go_simp
                  with_reducible rfl
                rotate_left
                · simp only [Act.put, List.setIfInBounds_toArray, List.set_cons_zero, List.set_cons_succ, i64_w, i32_w]
                  rfl
                refine pure_ (i := 2) (N := some 19) (v := ?_) (a' := ?_) #[true, true, true, false, false, false, false, false, false, false] rfl rfl (any_of HT_.out (by kernel_rfl)) (fun _ _ _ h => h) (Or.inl ⟨by rfl, ?_⟩) ?_ ?_
                rotate_left
                · intro w'
                  go_simp
                  with_reducible rfl
                rotate_left
                · simp only [Act.put, List.setIfInBounds_toArray, List.set_cons_zero, List.set_cons_succ, i64_w, i32_w]
                  rfl
                refine pure_ (i := 4) (N := some 21) (v := ?_) (a' := ?_) #[true, true, true, false, true, false, false, false, false, false] rfl rfl (any_of HT_.out (by kernel_rfl)) (fun _ _ _ h => h) (Or.inl ⟨by rfl, ?_⟩) ?_ ?_
                rotate_left
                · intro w'
                  go_simp
                  with_reducible rfl
                rotate_left
                · simp only [Act.put, List.setIfInBounds_toArray, List.set_cons_zero, List.set_cons_succ, i64_w, i32_w]
                  rfl
                refine pure_ (i := 5) (N := some 22) (v := ?_) (a' := ?_) #[true, true, true, false, true, true, false, false, false, false] rfl rfl (any_of HT_.out (by kernel_rfl)) (fun _ _ _ h => h) (Or.inl ⟨by rfl, ?_⟩) ?_ ?_
                rotate_left
                · intro w'
                  go_simp
                  with_reducible rfl
                rotate_left
                · simp only [Act.put, List.setIfInBounds_toArray, List.set_cons_zero, List.set_cons_succ, i64_w, i32_w]
                  rfl
                refine pure_ (i := 6) (N := some 23) (v := ?_) (a' := ?_) #[true, true, true, false, true, true, true, false, false, false] rfl rfl (any_of HT_.out (by kernel_rfl)) (fun _ _ _ h => h) (Or.inl ⟨by rfl, ?_⟩) ?_ ?_
                rotate_left
                · intro w'
                  go_simp
                  with_reducible rfl
                rotate_left
                · simp only [Act.put, List.setIfInBounds_toArray, List.set_cons_zero, List.set_cons_succ, i64_w, i32_w]
                  rfl
                refine take_ (i := 3) (N := some 20) (v := ?_) (a' := ?_) #[true, true, true, true, true, true, true, false, false, false] rfl rfl (take_ofW HT_.out HW_.out (by kernel_rfl)) (fun _ _ _ h => h) (Or.inl ⟨by rfl, ?_⟩) hHeld ?_ ?_
                rotate_left
                · rintro w' ⟨s0, s1, s2, s3, s4, s5⟩
                  go_simp
                  with_reducible rfl
                rotate_left
                · simp only [Act.put, List.setIfInBounds_toArray, List.set_cons_zero, List.set_cons_succ, i64_w, i32_w]
                  rfl
                refine take_ (i := 7) (N := some 24) (v := ?_) (a' := ?_) #[true, true, true, true, true, true, true, true, false, false] rfl rfl (take_ofW HT_.out HW_.out (by kernel_rfl)) (fun _ _ _ h => h) (Or.inl ⟨by rfl, ?_⟩) hHeld ?_ ?_
                rotate_left
                · rintro w' ⟨s0, s1, s2, s3, s4, s5⟩
                  go_simp
                  with_reducible rfl
                rotate_left
                · simp only [Act.put, List.setIfInBounds_toArray, List.set_cons_zero, List.set_cons_succ, i64_w, i32_w]
                  rfl
                refine one_ (i := 8) (N := some 25) #[true, true, true, true, true, true, true, true, true, false] rfl rfl (one_of HT_.out (by kernel_rfl)) (by decide) (fun K hK => ?_)
                refine goes_ Try.func17 (by kernel_rfl) rfl #[.agg #[.int .u16 ((rd_T26 l0 x5_1).f0), .int .u8 ((rd_T26 l0 x5_1).f1), .slice A174_2 ((rd_T26 l0 x5_1).f2).length c174_2], .agg #[.int .u16 ((rd_T26 l1 x5_1).f0), .int .u8 ((rd_T26 l1 x5_1).f1), .slice A175_2 ((rd_T26 l1 x5_1).f2).length c175_2]] (by rfl) rfl rfl (by (try simp only [List.map_toArray, List.map_cons, List.map_nil]); first | done | rfl | (simp only [List.length_drop, List.length_take]; rfl)) ?_
                with_reducible refine (watchkeeperref03_Same.calls ((rd_T26 l0 x5_1).f0) ((rd_T26 l0 x5_1).f1) _ _ ((rd_T26 l0 x5_1).f2) ((rd_T26 l1 x5_1).f0) ((rd_T26 l1 x5_1).f1) _ _ ((rd_T26 l1 x5_1).f2) true _ ?side1 ?side2 ?side3 ?side4 A7.out).mono ?_
                (case side1 => repeat (first | exact (Kd.C_below HR174_2.out HB.out) | (with_reducible refine Kd.C_alloc ?_ _) | (with_reducible refine Kd.C_drewN ?_ _) | (with_reducible refine Kd.C_drew ?_)))
                (case side2 => exact HC174_2.out)
                (case side3 => repeat (first | exact (Kd.C_below HR175_2.out HB.out) | (with_reducible refine Kd.C_alloc ?_ _) | (with_reducible refine Kd.C_drewN ?_ _) | (with_reducible refine Kd.C_drew ?_)))
                (case side4 => exact HC175_2.out)
                rintro e w10 ⟨rfl, hb⟩
                refine ⟨_, rfl, ?_⟩
                have n0_ := Aside0.mk (below_step (by repeat (first | (with_reducible first | exact HB.out | apply below_alloc | apply pw_below_drewN | apply below_drew1) | exact HB.out)) hb)
                clear HB
                have HB := n0_
                clear n0_
                (try clear hb)
                (try clear hb2)
                (try clear hgn)
                (try clear hk)
                (try clear hi)
                refine hK.out _ _ ⟨((HB.out.cell (World.block_lt_of_cell? w _ hw174_0)).trans hw174_0), ((HB.out.cell (World.block_lt_of_cell? w _ hw174_1)).trans hw174_1), ((HB.out.cell (World.block_lt_of_cell? w _ hw174_2)).trans hw174_2), ((HB.out.cell (World.block_lt_of_cell? w _ hw175_0)).trans hw175_0), ((HB.out.cell (World.block_lt_of_cell? w _ hw175_1)).trans hw175_1), ((HB.out.cell (World.block_lt_of_cell? w _ hw175_2)).trans hw175_2)⟩ (fun hHeld => ?_)
                clear hK K
                refine norm_ (a' := ?_) ?_ ?_
                rotate_left
                · show Act.put _ (some 25) _ = _
                  simp only [Act.put, List.setIfInBounds_toArray, List.set_cons_zero, List.set_cons_succ, i64_w, i32_w]
                  rfl
                refine pure_ (i := 9) (N := some 26) (v := ?_) (a' := ?_) #[true, true, true, true, true, true, true, true, true, true] rfl rfl (any_of HT_.out (by kernel_rfl)) (fun _ _ _ h => h) (Or.inl ⟨by rfl, ?_⟩) ?_ ?_
                rotate_left
                · intro w'
                  go_simp
                  with_reducible rfl
                rotate_left
                · simp only [Act.put, List.setIfInBounds_toArray, List.set_cons_zero, List.set_cons_succ, i64_w, i32_w]
                  rfl
                refine done_ (done_of HT_.out (by kernel_rfl)) ?_
                try go_wp2
                go_roundg k1
                case measure => have := HK1.out; omega
                case rel => exact ⟨(wrap64 (x5_1 + 1)), (by first | rfl | (simp; done) | (simp [*]; done)), H', ⟨by have := HK1.out; omega⟩, ⟨by repeat (first | (with_reducible first | exact HB.out | apply below_alloc | apply pw_below_drewN | apply below_drew1) | exact HB.out)⟩⟩
              · replace c8 := Bool.eq_false_iff.mpr c8
                subst c8
                have H1 : (some false) = some r := by rw [if_neg (show ¬ (false = true) by decide)] at H; exact H
                clear H
                have H := H1
                clear H1
                obtain rfl := Option.some.inj H
                try go_wp2
                have n0_ := Aside0.mk (below_drew1 HB.out)
                clear HB
                have HB := n0_
                clear n0_
                have p174 : 0 ≤ (x5_1 : Int) := of_decide_eq_true (by first | (with_reducible assumption) | assumption)
                have q174 : x5_1 < (l0.length : Int) := of_decide_eq_true (by first | (with_reducible assumption) | assumption)
                obtain ⟨ad174, A174_2, c174_2, e174, hx174_0, hx174_1, hx174_2, hl174_2, hi174_2⟩ := at_T26 HR0.out x5_1 p174 q174
                have hw174_2 := hx174_2
                have hw174_1 := hx174_1
                have hw174_0 := hx174_0
                cases e174
                replace hx174_0 := (HB.out.cell (World.block_lt_of_cell? w _ hx174_0)).trans hx174_0
                replace hx174_1 := (HB.out.cell (World.block_lt_of_cell? w _ hx174_1)).trans hx174_1
                replace hx174_2 := (HB.out.cell (World.block_lt_of_cell? w _ hx174_2)).trans hx174_2
                have HR174_2 := Aside0.mk hi174_2
                have HC174_2 := Aside0.mk hl174_2
                clear hi174_2 hl174_2
                replace p174 := eq_true p174
                replace q174 := eq_true q174
                have p175 : 0 ≤ (x5_1 : Int) := of_decide_eq_true (by first | (with_reducible assumption) | assumption)
                have q175 : x5_1 < (l1.length : Int) := of_decide_eq_true (by first | (with_reducible assumption) | assumption)
                obtain ⟨ad175, A175_2, c175_2, e175, hx175_0, hx175_1, hx175_2, hl175_2, hi175_2⟩ := at_T26 HR1.out x5_1 p175 q175
                have hw175_2 := hx175_2
                have hw175_1 := hx175_1
                have hw175_0 := hx175_0
                cases e175
                replace hx175_0 := (HB.out.cell (World.block_lt_of_cell? w _ hx175_0)).trans hx175_0
                replace hx175_1 := (HB.out.cell (World.block_lt_of_cell? w _ hx175_1)).trans hx175_1
                replace hx175_2 := (HB.out.cell (World.block_lt_of_cell? w _ hx175_2)).trans hx175_2
                have HR175_2 := Aside0.mk hi175_2
                have HC175_2 := Aside0.mk hl175_2
                clear hi175_2 hl175_2
                replace p175 := eq_true p175
                replace q175 := eq_true q175
                refine start_ (n := 10) (S := fun w' => w'.cell? (ad174.add ((x5_1).toNat * 3)) = some (.int .u16 ((rd_T26 l0 x5_1).f0)) ∧ w'.cell? ⟨(ad174.add ((x5_1).toNat * 3)).block, (ad174.add ((x5_1).toNat * 3)).off + 1, none⟩ = some (.int .u8 ((rd_T26 l0 x5_1).f1)) ∧ w'.cell? ⟨(ad174.add ((x5_1).toNat * 3)).block, (ad174.add ((x5_1).toNat * 3)).off + 2, none⟩ = some (.slice A174_2 ((rd_T26 l0 x5_1).f2).length c174_2) ∧ w'.cell? (ad175.add ((x5_1).toNat * 3)) = some (.int .u16 ((rd_T26 l1 x5_1).f0)) ∧ w'.cell? ⟨(ad175.add ((x5_1).toNat * 3)).block, (ad175.add ((x5_1).toNat * 3)).off + 1, none⟩ = some (.int .u8 ((rd_T26 l1 x5_1).f1)) ∧ w'.cell? ⟨(ad175.add ((x5_1).toNat * 3)).block, (ad175.add ((x5_1).toNat * 3)).off + 2, none⟩ = some (.slice A175_2 ((rd_T26 l1 x5_1).f2).length c175_2)) (ds := []) #[false, false, false, false, false, false, false, false, false, false] (by kernel_rfl) rfl rfl ⟨((HB.out.cell (World.block_lt_of_cell? w _ hw174_0)).trans hw174_0), ((HB.out.cell (World.block_lt_of_cell? w _ hw174_1)).trans hw174_1), ((HB.out.cell (World.block_lt_of_cell? w _ hw174_2)).trans hw174_2), ((HB.out.cell (World.block_lt_of_cell? w _ hw175_0)).trans hw175_0), ((HB.out.cell (World.block_lt_of_cell? w _ hw175_1)).trans hw175_1), ((HB.out.cell (World.block_lt_of_cell? w _ hw175_2)).trans hw175_2)⟩ (fun hHeld => ?_); refine with_tabW watchkeeperref03_SameAll.tab6 watchkeeperref03_SameAll.bits6 (fun HT_ HW_ => ?_)
                generalize wr.drew = w11 at HB HR174_2 HR175_2 hx174_0 hx174_1 hx174_2 hx175_0 hx175_1 hx175_2 hHeld ⊢
                refine pure_ (i := 0) (N := some 17) (v := ?_) (a' := ?_) #[true, false, false, false, false, false, false, false, false, false] rfl rfl (any_of HT_.out (by kernel_rfl)) (fun _ _ _ h => h) (Or.inl ⟨by rfl, ?_⟩) ?_ ?_
                rotate_left
                · intro w'
                  go_simp
                  with_reducible rfl
                rotate_left
                · simp only [Act.put, List.setIfInBounds_toArray, List.set_cons_zero, List.set_cons_succ, i64_w, i32_w]
                  rfl
                refine pure_ (i := 1) (N := some 18) (v := ?_) (a' := ?_) #[true, true, false, false, false, false, false, false, false, false] rfl rfl (any_of HT_.out (by kernel_rfl)) (fun _ _ _ h => h) (Or.inl ⟨by rfl, ?_⟩) ?_ ?_
                rotate_left
                · intro w'
                  go_simp
                  with_reducible rfl
                rotate_left
                · simp only [Act.put, List.setIfInBounds_toArray, List.set_cons_zero, List.set_cons_succ, i64_w, i32_w]
                  rfl
                refine pure_ (i := 2) (N := some 19) (v := ?_) (a' := ?_) #[true, true, true, false, false, false, false, false, false, false] rfl rfl (any_of HT_.out (by kernel_rfl)) (fun _ _ _ h => h) (Or.inl ⟨by rfl, ?_⟩) ?_ ?_
                rotate_left
                · intro w'
                  go_simp
                  with_reducible rfl
                rotate_left
                · simp only [Act.put, List.setIfInBounds_toArray, List.set_cons_zero, List.set_cons_succ, i64_w, i32_w]
                  rfl
                refine pure_ (i := 4) (N := some 21) (v := ?_) (a' := ?_) #[true, true, true, false, true, false, false, false, false, false] rfl rfl (any_of HT_.out (by kernel_rfl)) (fun _ _ _ h => h) (Or.inl ⟨by rfl, ?_⟩) ?_ ?_
                rotate_left
                · intro w'
                  go_simp
                  with_reducible rfl
                rotate_left
                · simp only [Act.put, List.setIfInBounds_toArray, List.set_cons_zero, List.set_cons_succ, i64_w, i32_w]
                  rfl
                refine pure_ (i := 5) (N := some 22) (v := ?_) (a' := ?_) #[true, true, true, false, true, true, false, false, false, false] rfl rfl (any_of HT_.out (by kernel_rfl)) (fun _ _ _ h => h) (Or.inl ⟨by rfl, ?_⟩) ?_ ?_
                rotate_left
                · intro w'
                  go_simp
                  with_reducible rfl
                rotate_left
                · simp only [Act.put, List.setIfInBounds_toArray, List.set_cons_zero, List.set_cons_succ, i64_w, i32_w]
                  rfl
                refine pure_ (i := 6) (N := some 23) (v := ?_) (a' := ?_) #[true, true, true, false, true, true, true, false, false, false] rfl rfl (any_of HT_.out (by kernel_rfl)) (fun _ _ _ h => h) (Or.inl ⟨by rfl, ?_⟩) ?_ ?_
                rotate_left
                · intro w'
                  go_simp
                  with_reducible rfl
                rotate_left
                · simp only [Act.put, List.setIfInBounds_toArray, List.set_cons_zero, List.set_cons_succ, i64_w, i32_w]
                  rfl
                refine take_ (i := 3) (N := some 20) (v := ?_) (a' := ?_) #[true, true, true, true, true, true, true, false, false, false] rfl rfl (take_ofW HT_.out HW_.out (by kernel_rfl)) (fun _ _ _ h => h) (Or.inl ⟨by rfl, ?_⟩) hHeld ?_ ?_
                rotate_left
                · rintro w' ⟨s0, s1, s2, s3, s4, s5⟩
                  go_simp
                  with_reducible rfl
                rotate_left
                · simp only [Act.put, List.setIfInBounds_toArray, List.set_cons_zero, List.set_cons_succ, i64_w, i32_w]
                  rfl
                refine take_ (i := 7) (N := some 24) (v := ?_) (a' := ?_) #[true, true, true, true, true, true, true, true, false, false] rfl rfl (take_ofW HT_.out HW_.out (by kernel_rfl)) (fun _ _ _ h => h) (Or.inl ⟨by rfl, ?_⟩) hHeld ?_ ?_
                rotate_left
                · rintro w' ⟨s0, s1, s2, s3, s4, s5⟩
                  go_simp
                  with_reducible rfl
                rotate_left
                · simp only [Act.put, List.setIfInBounds_toArray, List.set_cons_zero, List.set_cons_succ, i64_w, i32_w]
                  rfl
                refine one_ (i := 8) (N := some 25) #[true, true, true, true, true, true, true, true, true, false] rfl rfl (one_of HT_.out (by kernel_rfl)) (by decide) (fun K hK => ?_)
                refine goes_ Try.func17 (by kernel_rfl) rfl #[.agg #[.int .u16 ((rd_T26 l0 x5_1).f0), .int .u8 ((rd_T26 l0 x5_1).f1), .slice A174_2 ((rd_T26 l0 x5_1).f2).length c174_2], .agg #[.int .u16 ((rd_T26 l1 x5_1).f0), .int .u8 ((rd_T26 l1 x5_1).f1), .slice A175_2 ((rd_T26 l1 x5_1).f2).length c175_2]] (by rfl) rfl rfl (by (try simp only [List.map_toArray, List.map_cons, List.map_nil]); first | done | rfl | (simp only [List.length_drop, List.length_take]; rfl)) ?_
                with_reducible refine (watchkeeperref03_Same.calls ((rd_T26 l0 x5_1).f0) ((rd_T26 l0 x5_1).f1) _ _ ((rd_T26 l0 x5_1).f2) ((rd_T26 l1 x5_1).f0) ((rd_T26 l1 x5_1).f1) _ _ ((rd_T26 l1 x5_1).f2) false _ ?side1 ?side2 ?side3 ?side4 A7.out).mono ?_
                (case side1 => repeat (first | exact (Kd.C_below HR174_2.out HB.out) | (with_reducible refine Kd.C_alloc ?_ _) | (with_reducible refine Kd.C_drewN ?_ _) | (with_reducible refine Kd.C_drew ?_)))
                (case side2 => exact HC174_2.out)
                (case side3 => repeat (first | exact (Kd.C_below HR175_2.out HB.out) | (with_reducible refine Kd.C_alloc ?_ _) | (with_reducible refine Kd.C_drewN ?_ _) | (with_reducible refine Kd.C_drew ?_)))
                (case side4 => exact HC175_2.out)
                rintro e w12 ⟨rfl, hb⟩
                refine ⟨_, rfl, ?_⟩
                have n0_ := Aside0.mk (below_step (by repeat (first | (with_reducible first | exact HB.out | apply below_alloc | apply pw_below_drewN | apply below_drew1) | exact HB.out)) hb)
                clear HB
                have HB := n0_
                clear n0_
                (try clear hb)
                (try clear hb2)
                (try clear hgn)
                (try clear hk)
                (try clear hi)
                refine hK.out _ _ ⟨((HB.out.cell (World.block_lt_of_cell? w _ hw174_0)).trans hw174_0), ((HB.out.cell (World.block_lt_of_cell? w _ hw174_1)).trans hw174_1), ((HB.out.cell (World.block_lt_of_cell? w _ hw174_2)).trans hw174_2), ((HB.out.cell (World.block_lt_of_cell? w _ hw175_0)).trans hw175_0), ((HB.out.cell (World.block_lt_of_cell? w _ hw175_1)).trans hw175_1), ((HB.out.cell (World.block_lt_of_cell? w _ hw175_2)).trans hw175_2)⟩ (fun hHeld => ?_)
                clear hK K
                refine norm_ (a' := ?_) ?_ ?_
                rotate_left
                · show Act.put _ (some 25) _ = _
                  simp only [Act.put, List.setIfInBounds_toArray, List.set_cons_zero, List.set_cons_succ, i64_w, i32_w]
                  rfl
                refine pure_ (i := 9) (N := some 26) (v := ?_) (a' := ?_) #[true, true, true, true, true, true, true, true, true, true] rfl rfl (any_of HT_.out (by kernel_rfl)) (fun _ _ _ h => h) (Or.inl ⟨by rfl, ?_⟩) ?_ ?_
                rotate_left
                · intro w'
                  go_simp
                  with_reducible rfl
                rotate_left
                · simp only [Act.put, List.setIfInBounds_toArray, List.set_cons_zero, List.set_cons_succ, i64_w, i32_w]
                  rfl
                refine done_ (done_of HT_.out (by kernel_rfl)) ?_
                try go_wp2
                go_ret
                exact ⟨by first | rfl | (simp [errW_none, errW_some] <;> rfl) | (simp [*, errW_none, errW_some] <;> rfl), by repeat (first | (with_reducible first | exact HB.out | apply below_alloc | apply pw_below_drewN | apply below_drew1) | exact HB.out)⟩
            · rw [if_neg c6] at H
              exact absurd H (by simp)
          · rw [if_neg c5] at H
            exact absurd H (by simp)
        · rw [if_neg c4] at H
          have c4b0 : decide (x5_1 < (l0.length : Int)) = false := decide_eq_false c4
          clear c4
          obtain rfl := Option.some.inj H
          go_wp2
          go_ret
          exact ⟨by first | rfl | (simp [errW_none, errW_some] <;> rfl) | (simp [*, errW_none, errW_some] <;> rfl), by repeat (first | (with_reducible first | exact HB.out | apply below_alloc | apply pw_below_drewN | apply below_drew1) | exact HB.out)⟩
  · rw [if_neg c3] at H
    have c3b0 : ((l0.length : Int) == (l1.length : Int)) = false := beq_eq_false_iff_ne.mpr c3
    have c3b1 : ((l0.length : Int) != (l1.length : Int)) = true := bne_iff_ne.mpr c3
    have c3b2 : (l0.length == l1.length) = false := by first | simpa using c3 | (simp at c3 ⊢; omega)
    obtain rfl := Option.some.inj H
    go_enter Try.func18, Try.ntmps18
    go_wp2
    go_ret
    exact ⟨by first | rfl | (simp [errW_none, errW_some] <;> rfl) | (simp [*, errW_none, errW_some] <;> rfl), by repeat (first | (with_reducible first | exact HB.out | apply below_alloc | apply pw_below_drewN | apply below_drew1) | exact HB.out)⟩

-- NOT PRINTED: function 4 (watchkeeperlaw03_MbapTells)

-- NOT PRINTED: function 5 (watchkeeperlaw03_MbapBack)

end Go.Proofs.Ytkmmkoiibcdmeaa.QD
