/- Contracts of the functions that the law reaches, and what each comes to as a plain function; laid by a program of mine over the printer. -/
import Derived.Test.YthhgomobjcpdoaaQA0
namespace Go.Proofs.Ythhgomobjcpdoaa.QA
open Go.RowKit Go.Proofs.YthhgomobjcpdoaaW.PrintWords Go.Proofs.YthhgomobjcpdoaaW.PrintLast Go.Proofs.YthhgomobjcpdoaaW.PrintMore
attribute [local go_sem] max2_int min2_int max_two min_two max_three min_three max_four min_four   -- for this text's walks alone
set_option linter.unusedVariables false
set_option linter.unusedSimpArgs false

/-! ### api_In_many: function 17 -/
-- making=1 rounds=0
/-- How many of a row are so. -/
def cntS (so : Bool → Bool → Bool → Bool) (l : List S29) : Nat := (l.filter fun x => so x.f0 x.f1 x.f2).length
theorem cntS_le (so : Bool → Bool → Bool → Bool) (l : List S29) : cntS so l ≤ l.length := List.length_filter_le _ _
theorem cntS_take (so : Bool → Bool → Bool → Bool) (l : List S29) (k : Nat) (hk : k < l.length) :
    cntS so (l.take (k + 1)) = cntS so (l.take k) + if so (rd_T29 l k).f0 (rd_T29 l k).f1 (rd_T29 l k).f2 then 1 else 0 := by
  have e : rd_T29 l k = l[k] := by unfold rd_T29; simp [List.getD_eq_getElem?_getD, List.getElem?_eq_getElem hk]
  rw [e]
  unfold cntS
  rw [List.take_succ_eq_append_getElem hk, List.filter_append, List.length_append]
  simp only [List.filter_cons, List.filter_nil]
  split <;> simp
def votesS (_a _b c : Bool) : Bool := !c
def yesS (a b c : Bool) : Bool := !c && (a || b)
set_option maxHeartbeats 800000 in
theorem votes_call (a b c : Bool) (w : World) : Calls Try.prog 19 #[.agg #[.bool a, .bool b, .bool c]] w fun e w' => e = .returned (.bool (votesS a b c)) ∧ Below w.heap.size w w' := by
  go_enter Try.func19, Try.ntmps19
  go_wp2
  go_ret
  exact ⟨rfl, (Below.refl _ _).alloc (Nat.le_refl _) _⟩
set_option maxHeartbeats 800000 in
theorem yes_call (a b c : Bool) (w : World) : Calls Try.prog 18 #[.agg #[.bool a, .bool b, .bool c]] w fun e w' => e = .returned (.bool (yesS a b c)) ∧ Below w.heap.size w w' := by
  cases c <;> cases a
  all_goals
    go_enter Try.func18, Try.ntmps18
    go_wp2
    go_ret
    exact ⟨rfl, ((Below.refl _ _).alloc (Nat.le_refl _) _).alloc (by simp) _⟩
set_option maxHeartbeats 1600000 in
theorem many_18 (A : Option Addr) (c : Nat) (l : List S29) (w : World)
    (hn : l.length ≤ 1000000) (hr : Kd.C k29 w A l.length l) :
    Calls Try.prog 17 #[.slice A l.length c, .func (.func 18) #[] #[]] w fun e w' => e = .returned (.int .i64 (cntS yesS l)) ∧ Below w.heap.size w w' := by
  have HR := Aside0.mk hr
  clear hr
  go_enter Try.func17, Try.ntmps17
  go_wp2
  go_loopw [5, 10] (fun v i wr => ∃ k : Nat, k ≤ l.length ∧ i = .int .i64 k ∧ v = .int .i64 (cntS yesS (l.take k)) ∧ Below w.heap.size w wr) (fun _ i _ => l.length - (intOf i).toNat)
  case atStart => exact ⟨0, Nat.zero_le _, rfl, rfl, Below.refl _ _⟩
  case round =>
    obtain ⟨k, hk, rfl, rfl, hb⟩ := hrel
    have hcl : cntS yesS (l.take k) ≤ 1000000 := Nat.le_trans (cntS_le _ _) (by rw [List.length_take]; omega)
    by_cases hlt : k < l.length
    · obtain ⟨ad, rfl, x0, x1, x2⟩ := at_T29 HR.out (k : Int) (by omega) (by omega)
      replace x0 := (hb.cell (World.block_lt_of_cell? w _ x0)).trans x0
      replace x1 := (hb.cell (World.block_lt_of_cell? w _ x1)).trans x1
      replace x2 := (hb.cell (World.block_lt_of_cell? w _ x2)).trans x2
      have HT := Aside0.mk (cntS_take yesS l k hlt)
      simp only [Int.toNat_natCast] at x0 x1 x2
      generalize rd_T29 l k = x at x0 x1 x2 HT
      have HB := Aside0.mk hb
      clear hb
      go_wp2_with fail
      refine (yes_call _ _ _ _).mono ?_
      rintro e w1 ⟨rfl, hb1⟩
      have HB1 := Aside0.mk (below_then (HB.out.alloc HB.out.size _) (Nat.le_trans HB.out.size (by simp)) hb1)
      clear hb1 x0 x1 x2
      by_cases hy : yesS x.f0 x.f1 x.f2 = true
      · go_wp2
        go_roundw
        case rel => exact ⟨k + 1, by omega, by go_num, by rw [HT.out, hy]; go_num, HB1.out⟩
        case measure => simp [intOf]; omega
      · have hy' : yesS x.f0 x.f1 x.f2 = false := by simpa using hy
        go_wp2
        go_roundw
        case rel => exact ⟨k + 1, by omega, by go_num, by rw [HT.out, hy']; rfl, HB1.out⟩
        case measure => simp [intOf]; omega
    · have HB := Aside0.mk hb
      clear hb
      go_wp2
      go_ret
      exact ⟨by rw [List.take_of_length_le (by omega)]; rfl, HB.out⟩
set_option maxHeartbeats 1600000 in
theorem many_19 (A : Option Addr) (c : Nat) (l : List S29) (w : World)
    (hn : l.length ≤ 1000000) (hr : Kd.C k29 w A l.length l) :
    Calls Try.prog 17 #[.slice A l.length c, .func (.func 19) #[] #[]] w fun e w' => e = .returned (.int .i64 (cntS votesS l)) ∧ Below w.heap.size w w' := by
  have HR := Aside0.mk hr
  clear hr
  go_enter Try.func17, Try.ntmps17
  go_wp2
  go_loopw [5, 10] (fun v i wr => ∃ k : Nat, k ≤ l.length ∧ i = .int .i64 k ∧ v = .int .i64 (cntS votesS (l.take k)) ∧ Below w.heap.size w wr) (fun _ i _ => l.length - (intOf i).toNat)
  case atStart => exact ⟨0, Nat.zero_le _, rfl, rfl, Below.refl _ _⟩
  case round =>
    obtain ⟨k, hk, rfl, rfl, hb⟩ := hrel
    have hcl : cntS votesS (l.take k) ≤ 1000000 := Nat.le_trans (cntS_le _ _) (by rw [List.length_take]; omega)
    by_cases hlt : k < l.length
    · obtain ⟨ad, rfl, x0, x1, x2⟩ := at_T29 HR.out (k : Int) (by omega) (by omega)
      replace x0 := (hb.cell (World.block_lt_of_cell? w _ x0)).trans x0
      replace x1 := (hb.cell (World.block_lt_of_cell? w _ x1)).trans x1
      replace x2 := (hb.cell (World.block_lt_of_cell? w _ x2)).trans x2
      have HT := Aside0.mk (cntS_take votesS l k hlt)
      simp only [Int.toNat_natCast] at x0 x1 x2
      generalize rd_T29 l k = x at x0 x1 x2 HT
      have HB := Aside0.mk hb
      clear hb
      go_wp2_with fail
      refine (votes_call _ _ _ _).mono ?_
      rintro e w1 ⟨rfl, hb1⟩
      have HB1 := Aside0.mk (below_then (HB.out.alloc HB.out.size _) (Nat.le_trans HB.out.size (by simp)) hb1)
      clear hb1 x0 x1 x2
      by_cases hy : votesS x.f0 x.f1 x.f2 = true
      · go_wp2
        go_roundw
        case rel => exact ⟨k + 1, by omega, by go_num, by rw [HT.out, hy]; go_num, HB1.out⟩
        case measure => simp [intOf]; omega
      · have hy' : votesS x.f0 x.f1 x.f2 = false := by simpa using hy
        go_wp2
        go_roundw
        case rel => exact ⟨k + 1, by omega, by go_num, by rw [HT.out, hy']; rfl, HB1.out⟩
        case measure => simp [intOf]; omega
    · have HB := Aside0.mk hb
      clear hb
      go_wp2
      go_ret
      exact ⟨by rw [List.take_of_length_le (by omega)]; rfl, HB.out⟩

/-! ### vote_votes: function 19 -/
def vote_votes.f (a0_0 : Bool) (a0_1 : Bool) (a0_2 : Bool) : Option (Bool) := some (!a0_2)
set_option maxHeartbeats 8000000 in
set_option maxRecDepth 100000 in
theorem vote_votes.calls (a0_0 : Bool) (a0_1 : Bool) (a0_2 : Bool) (r : Bool) (w : World) (h : vote_votes.f a0_0 a0_1 a0_2 = some r) :
    Calls Try.prog 19 #[.agg #[.bool a0_0, .bool a0_1, .bool a0_2]] w fun e w' => e = .returned (.bool r) ∧ Below w.heap.size w w' := by
  have hu29 := Try.underlying29
  have HB := Aside0.mk (Below.refl w.heap.size w)
  have H : (some (!a0_2)) = some r := h
  clear h
  obtain rfl := Option.some.inj H
  go_enter Try.func19, Try.ntmps19
  go_wp2_with (first | ((with_reducible refine gate_dst (N := 1) rfl ?_); refine box_event ?hg (N := 1) ?hd (cs := #[.bool a0_0, .bool a0_1, .bool a0_2]) (t := 29) ?hr ?_; (case hd => rfl); (case hg => rfl); (case hr => first | (go_simp; done) | (go_simp; rfl)); intro gb101 hg w2 hbox hb; have n0_ := Aside0.mk (below_step (by repeat (first | (with_reducible first | exact HB.out | apply below_alloc | apply pw_below_drewN | apply below_drew1) | exact HB.out)) hb); have n1_ := Aside0.mk (hbox); have n2_ := Aside0.mk ((by rw [hg]; exact (below_size (by repeat (first | (with_reducible first | exact HB.out | apply below_alloc | apply pw_below_drewN | apply below_drew1) | exact HB.out))) : w.heap.size ≤ gb101)); have n3_ := Aside0.mk ((by rw [hg]; exact (below_size (by repeat (first | (with_reducible first | exact HB.out | apply below_alloc | apply pw_below_drewN | apply below_drew1) | exact HB.out))) : w.heap.size ≤ gb101)); clear HB; have HB := n0_; have BK101 := n1_; have GW101 := n2_; have GE101 := n3_; clear n0_ n1_ n2_ n3_; clear hb hbox hg; have hcz3_0 : w2.cell? ⟨gb101, 0, none⟩ = some (.bool a0_0) := (blk_cell BK101.out 0).trans rfl; have hcz3_1 : w2.cell? ⟨gb101, 1, none⟩ = some (.bool a0_1) := (blk_cell BK101.out 1).trans rfl; have hcz3_2 : w2.cell? ⟨gb101, 2, none⟩ = some (.bool a0_2) := (blk_cell BK101.out 2).trans rfl; have hfz3_0 := blk_frozen BK101.out 0; have hfz3_1 := blk_frozen BK101.out 1; have hfz3_2 := blk_frozen BK101.out 2))
  go_ret
  exact ⟨by first | rfl | (simp [errW_none, errW_some] <;> rfl) | (simp [*, errW_none, errW_some] <;> rfl), by repeat (first | (with_reducible first | exact HB.out | apply below_alloc | apply pw_below_drewN | apply below_drew1 | refine below_set ?_ GE101.out) | exact HB.out)⟩

/-! ### vote_yes: function 18 -/
def vote_yes.f (a0_0 : Bool) (a0_1 : Bool) (a0_2 : Bool) : Option (Bool) := (vote_votes.f a0_0 a0_1 a0_2).bind fun t103 => (if t103 = true then (if a0_0 = true then (some true) else (some a0_1)) else (some false))
set_option maxHeartbeats 8000000 in
set_option maxRecDepth 100000 in
theorem vote_yes.calls (a0_0 : Bool) (a0_1 : Bool) (a0_2 : Bool) (r : Bool) (w : World) (h : vote_yes.f a0_0 a0_1 a0_2 = some r) :
    Calls Try.prog 18 #[.agg #[.bool a0_0, .bool a0_1, .bool a0_2]] w fun e w' => e = .returned (.bool r) ∧ Below w.heap.size w w' := by
  have hu29 := Try.underlying29
  have HB := Aside0.mk (Below.refl w.heap.size w)
  have H : ((vote_votes.f a0_0 a0_1 a0_2).bind fun t103 => (if t103 = true then (if a0_0 = true then (some true) else (some a0_1)) else (some false))) = some r := h
  clear h
  replace H := Option.bind_eq_some_iff.mp H
  obtain ⟨t103, A20, H⟩ := H
  replace H : (if t103 = true then (if a0_0 = true then (some true) else (some a0_1)) else (some false)) = some r := H
  have A2 := Aside0.mk A20
  clear A20
  by_cases c3 : t103 = true
  · subst c3
    have H1 : (if a0_0 = true then (some true) else (some a0_1)) = some r := by rw [if_pos rfl] at H; exact H
    clear H
    have H := H1
    clear H1
    by_cases c4 : a0_0 = true
    · subst c4
      have H1 : (some true) = some r := by rw [if_pos rfl] at H; exact H
      clear H
      have H := H1
      clear H1
      obtain rfl := Option.some.inj H
      go_enter Try.func18, Try.ntmps18
      go_wp2_with (first | ((with_reducible refine gate_dst (N := 1) rfl ?_); refine box_event ?hg (N := 1) ?hd (cs := #[.bool true, .bool a0_1, .bool a0_2]) (t := 29) ?hr ?_; (case hd => rfl); (case hg => rfl); (case hr => first | (go_simp; done) | (go_simp; rfl)); intro gb102 hg w5 hbox hb; have n0_ := Aside0.mk (below_step (by repeat (first | (with_reducible first | exact HB.out | apply below_alloc | apply pw_below_drewN | apply below_drew1) | exact HB.out)) hb); have n1_ := Aside0.mk (hbox); have n2_ := Aside0.mk ((by rw [hg]; exact (below_size (by repeat (first | (with_reducible first | exact HB.out | apply below_alloc | apply pw_below_drewN | apply below_drew1) | exact HB.out))) : w.heap.size ≤ gb102)); have n3_ := Aside0.mk ((by rw [hg]; exact (below_size (by repeat (first | (with_reducible first | exact HB.out | apply below_alloc | apply pw_below_drewN | apply below_drew1) | exact HB.out))) : w.heap.size ≤ gb102)); clear HB; have HB := n0_; have BK102 := n1_; have GW102 := n2_; have GE102 := n3_; clear n0_ n1_ n2_ n3_; clear hb hbox hg; have hcz6_0 : w5.cell? ⟨gb102, 0, none⟩ = some (.bool true) := (blk_cell BK102.out 0).trans rfl; have hcz6_1 : w5.cell? ⟨gb102, 1, none⟩ = some (.bool a0_1) := (blk_cell BK102.out 1).trans rfl; have hcz6_2 : w5.cell? ⟨gb102, 2, none⟩ = some (.bool a0_2) := (blk_cell BK102.out 2).trans rfl; have hfz6_0 := blk_frozen BK102.out 0; have hfz6_1 := blk_frozen BK102.out 1; have hfz6_2 := blk_frozen BK102.out 2) | ((with_reducible refine gate_callee (f := 19) rfl ?_); refine goesL_ (some 4) rfl rfl Try.func19 (by kernel_rfl) rfl #[.agg #[.bool true, .bool a0_1, .bool a0_2]] rfl (by (try simp only [List.map_toArray, List.map_cons, List.map_nil]); first | done | rfl | (simp only [List.length_drop, List.length_take]; rfl)) ?_; (with_reducible refine (vote_votes.calls true a0_1 a0_2 true _ A2.out).mono ?_); rintro e w7 ⟨rfl, hb⟩; refine ⟨_, rfl, ?_⟩; have n0_ := Aside0.mk (blk_below (g := gb102) (o := .cells #[.bool true, .bool a0_1, .bool a0_2] 29 (0, 0)) (by (with_reducible repeat (first | refine blk_drewN ?_ _ | refine blk_drew ?_ | refine blk_alloc ?_ _)); exact BK102.out) hb); have n1_ := Aside0.mk (below_step (by repeat (first | (with_reducible first | exact HB.out | apply below_alloc | apply pw_below_drewN | apply below_drew1 | refine below_set ?_ GE102.out) | exact HB.out)) hb); clear BK102; clear HB; have BK102 := n0_; have HB := n1_; clear n0_ n1_; (try clear hb); (try clear hb2); (try clear hgn); (try clear hk); (try clear hi); have hcz8_0 : w7.cell? ⟨gb102, 0, none⟩ = some (.bool true) := (blk_cell BK102.out 0).trans rfl; have hcz8_1 : w7.cell? ⟨gb102, 1, none⟩ = some (.bool a0_1) := (blk_cell BK102.out 1).trans rfl; have hcz8_2 : w7.cell? ⟨gb102, 2, none⟩ = some (.bool a0_2) := (blk_cell BK102.out 2).trans rfl; have hfz8_0 := blk_frozen BK102.out 0; have hfz8_1 := blk_frozen BK102.out 1; have hfz8_2 := blk_frozen BK102.out 2))
      go_ret
      exact ⟨by first | rfl | (simp [errW_none, errW_some] <;> rfl) | (simp [*, errW_none, errW_some] <;> rfl), by repeat (first | (with_reducible first | exact HB.out | apply below_alloc | apply pw_below_drewN | apply below_drew1 | refine below_set ?_ GE102.out) | exact HB.out)⟩
    · replace c4 := Bool.eq_false_iff.mpr c4
      subst c4
      have H1 : (some a0_1) = some r := by rw [if_neg (show ¬ (false = true) by decide)] at H; exact H
      clear H
      have H := H1
      clear H1
      obtain rfl := Option.some.inj H
      go_enter Try.func18, Try.ntmps18
      go_wp2_with (first | ((with_reducible refine gate_dst (N := 1) rfl ?_); refine box_event ?hg (N := 1) ?hd (cs := #[.bool false, .bool a0_1, .bool a0_2]) (t := 29) ?hr ?_; (case hd => rfl); (case hg => rfl); (case hr => first | (go_simp; done) | (go_simp; rfl)); intro gb102 hg w9 hbox hb; have n0_ := Aside0.mk (below_step (by repeat (first | (with_reducible first | exact HB.out | apply below_alloc | apply pw_below_drewN | apply below_drew1) | exact HB.out)) hb); have n1_ := Aside0.mk (hbox); have n2_ := Aside0.mk ((by rw [hg]; exact (below_size (by repeat (first | (with_reducible first | exact HB.out | apply below_alloc | apply pw_below_drewN | apply below_drew1) | exact HB.out))) : w.heap.size ≤ gb102)); have n3_ := Aside0.mk ((by rw [hg]; exact (below_size (by repeat (first | (with_reducible first | exact HB.out | apply below_alloc | apply pw_below_drewN | apply below_drew1) | exact HB.out))) : w.heap.size ≤ gb102)); clear HB; have HB := n0_; have BK102 := n1_; have GW102 := n2_; have GE102 := n3_; clear n0_ n1_ n2_ n3_; clear hb hbox hg; have hcz10_0 : w9.cell? ⟨gb102, 0, none⟩ = some (.bool false) := (blk_cell BK102.out 0).trans rfl; have hcz10_1 : w9.cell? ⟨gb102, 1, none⟩ = some (.bool a0_1) := (blk_cell BK102.out 1).trans rfl; have hcz10_2 : w9.cell? ⟨gb102, 2, none⟩ = some (.bool a0_2) := (blk_cell BK102.out 2).trans rfl; have hfz10_0 := blk_frozen BK102.out 0; have hfz10_1 := blk_frozen BK102.out 1; have hfz10_2 := blk_frozen BK102.out 2) | ((with_reducible refine gate_callee (f := 19) rfl ?_); refine goesL_ (some 4) rfl rfl Try.func19 (by kernel_rfl) rfl #[.agg #[.bool false, .bool a0_1, .bool a0_2]] rfl (by (try simp only [List.map_toArray, List.map_cons, List.map_nil]); first | done | rfl | (simp only [List.length_drop, List.length_take]; rfl)) ?_; (with_reducible refine (vote_votes.calls false a0_1 a0_2 true _ A2.out).mono ?_); rintro e w11 ⟨rfl, hb⟩; refine ⟨_, rfl, ?_⟩; have n0_ := Aside0.mk (blk_below (g := gb102) (o := .cells #[.bool false, .bool a0_1, .bool a0_2] 29 (0, 0)) (by (with_reducible repeat (first | refine blk_drewN ?_ _ | refine blk_drew ?_ | refine blk_alloc ?_ _)); exact BK102.out) hb); have n1_ := Aside0.mk (below_step (by repeat (first | (with_reducible first | exact HB.out | apply below_alloc | apply pw_below_drewN | apply below_drew1 | refine below_set ?_ GE102.out) | exact HB.out)) hb); clear BK102; clear HB; have BK102 := n0_; have HB := n1_; clear n0_ n1_; (try clear hb); (try clear hb2); (try clear hgn); (try clear hk); (try clear hi); have hcz12_0 : w11.cell? ⟨gb102, 0, none⟩ = some (.bool false) := (blk_cell BK102.out 0).trans rfl; have hcz12_1 : w11.cell? ⟨gb102, 1, none⟩ = some (.bool a0_1) := (blk_cell BK102.out 1).trans rfl; have hcz12_2 : w11.cell? ⟨gb102, 2, none⟩ = some (.bool a0_2) := (blk_cell BK102.out 2).trans rfl; have hfz12_0 := blk_frozen BK102.out 0; have hfz12_1 := blk_frozen BK102.out 1; have hfz12_2 := blk_frozen BK102.out 2))
      go_ret
      exact ⟨by first | rfl | (simp [errW_none, errW_some] <;> rfl) | (simp [*, errW_none, errW_some] <;> rfl), by repeat (first | (with_reducible first | exact HB.out | apply below_alloc | apply pw_below_drewN | apply below_drew1 | refine below_set ?_ GE102.out) | exact HB.out)⟩
  · replace c3 := Bool.eq_false_iff.mpr c3
    subst c3
    have H1 : (some false) = some r := by rw [if_neg (show ¬ (false = true) by decide)] at H; exact H
    clear H
    have H := H1
    clear H1
    obtain rfl := Option.some.inj H
    go_enter Try.func18, Try.ntmps18
    go_wp2_with (first | ((with_reducible refine gate_dst (N := 1) rfl ?_); refine box_event ?hg (N := 1) ?hd (cs := #[.bool a0_0, .bool a0_1, .bool a0_2]) (t := 29) ?hr ?_; (case hd => rfl); (case hg => rfl); (case hr => first | (go_simp; done) | (go_simp; rfl)); intro gb102 hg w13 hbox hb; have n0_ := Aside0.mk (below_step (by repeat (first | (with_reducible first | exact HB.out | apply below_alloc | apply pw_below_drewN | apply below_drew1) | exact HB.out)) hb); have n1_ := Aside0.mk (hbox); have n2_ := Aside0.mk ((by rw [hg]; exact (below_size (by repeat (first | (with_reducible first | exact HB.out | apply below_alloc | apply pw_below_drewN | apply below_drew1) | exact HB.out))) : w.heap.size ≤ gb102)); have n3_ := Aside0.mk ((by rw [hg]; exact (below_size (by repeat (first | (with_reducible first | exact HB.out | apply below_alloc | apply pw_below_drewN | apply below_drew1) | exact HB.out))) : w.heap.size ≤ gb102)); clear HB; have HB := n0_; have BK102 := n1_; have GW102 := n2_; have GE102 := n3_; clear n0_ n1_ n2_ n3_; clear hb hbox hg; have hcz14_0 : w13.cell? ⟨gb102, 0, none⟩ = some (.bool a0_0) := (blk_cell BK102.out 0).trans rfl; have hcz14_1 : w13.cell? ⟨gb102, 1, none⟩ = some (.bool a0_1) := (blk_cell BK102.out 1).trans rfl; have hcz14_2 : w13.cell? ⟨gb102, 2, none⟩ = some (.bool a0_2) := (blk_cell BK102.out 2).trans rfl; have hfz14_0 := blk_frozen BK102.out 0; have hfz14_1 := blk_frozen BK102.out 1; have hfz14_2 := blk_frozen BK102.out 2) | ((with_reducible refine gate_callee (f := 19) rfl ?_); refine goesL_ (some 4) rfl rfl Try.func19 (by kernel_rfl) rfl #[.agg #[.bool a0_0, .bool a0_1, .bool a0_2]] rfl (by (try simp only [List.map_toArray, List.map_cons, List.map_nil]); first | done | rfl | (simp only [List.length_drop, List.length_take]; rfl)) ?_; (with_reducible refine (vote_votes.calls a0_0 a0_1 a0_2 false _ A2.out).mono ?_); rintro e w15 ⟨rfl, hb⟩; refine ⟨_, rfl, ?_⟩; have n0_ := Aside0.mk (blk_below (g := gb102) (o := .cells #[.bool a0_0, .bool a0_1, .bool a0_2] 29 (0, 0)) (by (with_reducible repeat (first | refine blk_drewN ?_ _ | refine blk_drew ?_ | refine blk_alloc ?_ _)); exact BK102.out) hb); have n1_ := Aside0.mk (below_step (by repeat (first | (with_reducible first | exact HB.out | apply below_alloc | apply pw_below_drewN | apply below_drew1 | refine below_set ?_ GE102.out) | exact HB.out)) hb); clear BK102; clear HB; have BK102 := n0_; have HB := n1_; clear n0_ n1_; (try clear hb); (try clear hb2); (try clear hgn); (try clear hk); (try clear hi)))
    go_ret
    exact ⟨by first | rfl | (simp [errW_none, errW_some] <;> rfl) | (simp [*, errW_none, errW_some] <;> rfl), by repeat (first | (with_reducible first | exact HB.out | apply below_alloc | apply pw_below_drewN | apply below_drew1 | refine below_set ?_ GE102.out) | exact HB.out)⟩

/-! ### vote_Yes: function 9 -/
-- making=1 rounds=0
def vote_Yes.f (l0 : List S29) : Option Int := if l0.length ≤ 1000000 then some (cntS yesS l0 : Int) else none
set_option maxHeartbeats 800000 in
theorem vote_Yes.calls (A0 : Option Addr) (c0 : Nat) (l0 : List S29) (r : Int) (w : World) (hr0 : Kd.C k29 w A0 l0.length l0) (hc0 : l0.length ≤ c0) (h : vote_Yes.f l0 = some r) :
    Calls Try.prog 9 #[.slice A0 l0.length c0] w fun e w' => e = .returned (.int .i64 r) ∧ Below w.heap.size w w' := by
  unfold vote_Yes.f at h
  by_cases hn : l0.length ≤ 1000000
  case neg => rw [if_neg hn] at h; cases h
  rw [if_pos hn] at h
  injection h with h
  subst h
  have H := Aside0.mk (many_18 A0 c0 l0 w hn hr0)
  clear hr0
  go_enter Try.func9, Try.ntmps9
  go_wp2_with fail
  refine H.out.mono ?_
  rintro e w1 ⟨rfl, hb⟩
  have HB := Aside0.mk hb
  clear hb
  go_wp2
  go_ret
  exact ⟨rfl, HB.out⟩

/-! ### vote_Need: function 11 -/
-- making=1 rounds=0
def vote_Need.f (a0 : Int) (l1 : List S29) : Option Int := if l1.length ≤ 1000000 then some (min (max a0 1) (cntS votesS l1 : Int)) else none
set_option maxHeartbeats 800000 in
theorem vote_Need.calls (a0 : Int) (A1 : Option Addr) (c1 : Nat) (l1 : List S29) (r : Int) (w : World) (hr1 : Kd.C k29 w A1 l1.length l1) (hc1 : l1.length ≤ c1) (h : vote_Need.f a0 l1 = some r) :
    Calls Try.prog 11 #[.int .i64 a0, .slice A1 l1.length c1] w fun e w' => e = .returned (.int .i64 r) ∧ Below w.heap.size w w' := by
  unfold vote_Need.f at h
  by_cases hn : l1.length ≤ 1000000
  case neg => rw [if_neg hn] at h; cases h
  rw [if_pos hn] at h
  injection h with h
  subst h
  have H := Aside0.mk (many_19 A1 c1 l1 w hn hr1)
  clear hr1
  have hmn : (mn (mx a0 1) (cntS votesS l1 : Int)) = min (max a0 1) (cntS votesS l1 : Int) := by unfold mn mx; omega
  by_cases h1 : a0 < 1
  · have h1' := decide_eq_true h1
    by_cases h2 : (cntS votesS l1 : Int) < 1
    · have h2' := decide_eq_true h2
      have e : min (max a0 1) (cntS votesS l1 : Int) = cntS votesS l1 := by omega
      rw [e]
      clear e hmn
      go_enter Try.func11, Try.ntmps11
      go_wp2_with fail
      refine H.out.mono ?_
      rintro e w1 ⟨rfl, hb⟩
      have HB := Aside0.mk hb
      clear hb
      go_wp2
      go_ret
      exact ⟨rfl, HB.out⟩
    · have h2' := decide_eq_false h2
      have e : min (max a0 1) (cntS votesS l1 : Int) = 1 := by omega
      rw [e]
      clear e hmn
      go_enter Try.func11, Try.ntmps11
      go_wp2_with fail
      refine H.out.mono ?_
      rintro e w1 ⟨rfl, hb⟩
      have HB := Aside0.mk hb
      clear hb
      go_wp2
      go_ret
      exact ⟨rfl, HB.out⟩
  · have h1' := decide_eq_false h1
    by_cases h2 : (cntS votesS l1 : Int) < a0
    · have h2' := decide_eq_true h2
      have e : min (max a0 1) (cntS votesS l1 : Int) = cntS votesS l1 := by omega
      rw [e]
      clear e hmn
      go_enter Try.func11, Try.ntmps11
      go_wp2_with fail
      refine H.out.mono ?_
      rintro e w1 ⟨rfl, hb⟩
      have HB := Aside0.mk hb
      clear hb
      go_wp2
      go_ret
      exact ⟨rfl, HB.out⟩
    · have h2' := decide_eq_false h2
      have e : min (max a0 1) (cntS votesS l1 : Int) = a0 := by omega
      rw [e]
      clear e hmn
      go_enter Try.func11, Try.ntmps11
      go_wp2_with fail
      refine H.out.mono ?_
      rintro e w1 ⟨rfl, hb⟩
      have HB := Aside0.mk hb
      clear hb
      go_wp2
      go_ret
      exact ⟨rfl, HB.out⟩

/-! ### vote_Trips: function 13 -/
def vote_Trips.f (a0 : Int) (l1 : List (S29)) : Option (Bool) := (vote_Need.f a0 l1).bind fun t104 => (if t104 > 0 then ((vote_Yes.f l1).bind fun t105 => (some (decide (t105 ≥ t104)))) else (some false))
set_option maxHeartbeats 8000000 in
set_option maxRecDepth 100000 in
theorem vote_Trips.calls (a0 : Int) (A1 : Option Addr) (c1 : Nat) (l1 : List (S29)) (r : Bool) (w : World) (hr1 : Kd.C k29 w A1 l1.length l1) (hc1 : l1.length ≤ c1) (h : vote_Trips.f a0 l1 = some r) :
    Calls Try.prog 13 #[.int .i64 a0, .slice A1 l1.length c1] w fun e w' => e = .returned (.bool r) ∧ Below w.heap.size w w' := by
  have HR1 := Aside0.mk hr1
  have HC1 := Aside0.mk hc1
  clear hr1 hc1
  have HB := Aside0.mk (Below.refl w.heap.size w)
  have H : ((vote_Need.f a0 l1).bind fun t104 => (if t104 > 0 then ((vote_Yes.f l1).bind fun t105 => (some (decide (t105 ≥ t104)))) else (some false))) = some r := h
  clear h
  replace H := Option.bind_eq_some_iff.mp H
  obtain ⟨t104, A30, H⟩ := H
  replace H : (if t104 > 0 then ((vote_Yes.f l1).bind fun t105 => (some (decide (t105 ≥ t104)))) else (some false)) = some r := H
  have A3 := Aside0.mk A30
  clear A30
  by_cases c4 : t104 > 0
  · rw [if_pos c4] at H
    have c4b0 : decide (0 < t104) = true := decide_eq_true c4
    clear c4
    replace H := Option.bind_eq_some_iff.mp H
    obtain ⟨t105, A50, H⟩ := H
    replace H : (some (decide (t105 ≥ t104))) = some r := H
    have A5 := Aside0.mk A50
    clear A50
    obtain rfl := Option.some.inj H
    go_enter Try.func13, Try.ntmps13
    go_wp2_with (first | ((with_reducible refine gate_callee (f := 11) rfl ?_); refine goesL_ (some 8) rfl rfl Try.func11 (by kernel_rfl) rfl #[.int .i64 a0, .slice A1 l1.length c1] rfl (by (try simp only [List.map_toArray, List.map_cons, List.map_nil]); first | done | rfl | (simp only [List.length_drop, List.length_take]; rfl)) ?_; (with_reducible refine (vote_Need.calls a0 _ _ l1 t104 _ ?side1 ?side2 A3.out).mono ?_); (case side1 => repeat (first | exact HR1.out | (with_reducible refine Kd.C_alloc ?_ _) | (with_reducible refine Kd.C_drewN ?_ _) | (with_reducible refine Kd.C_drew ?_))); (case side2 => exact HC1.out); rintro e w6 ⟨rfl, hb⟩; refine ⟨_, rfl, ?_⟩; have n0_ := Aside0.mk (below_step (by repeat (first | (with_reducible first | exact HB.out | apply below_alloc | apply pw_below_drewN | apply below_drew1) | exact HB.out)) hb); clear HB; have HB := n0_; clear n0_; (try clear hb); (try clear hb2); (try clear hgn); (try clear hk); (try clear hi)) | (go_at_call 9; (with_reducible refine (vote_Yes.calls _ _ l1 t105 _ ?side1 ?side2 A5.out).mono ?_); (case side1 => repeat (first | exact (Kd.C_below HR1.out HB.out) | (with_reducible refine Kd.C_alloc ?_ _) | (with_reducible refine Kd.C_drewN ?_ _) | (with_reducible refine Kd.C_drew ?_))); (case side2 => exact HC1.out); rintro e w7 ⟨rfl, hb⟩; have n0_ := Aside0.mk (below_step (by repeat (first | (with_reducible first | exact HB.out | apply below_alloc | apply pw_below_drewN | apply below_drew1) | exact HB.out)) hb); clear HB; have HB := n0_; clear n0_; (try clear hb); (try clear hb2); (try clear hgn); (try clear hk); (try clear hi)))
    go_ret
    exact ⟨by first | rfl | (simp [errW_none, errW_some] <;> rfl) | (simp [*, errW_none, errW_some] <;> rfl), by repeat (first | (with_reducible first | exact HB.out | apply below_alloc | apply pw_below_drewN | apply below_drew1) | exact HB.out)⟩
  · rw [if_neg c4] at H
    have c4b0 : decide (0 < t104) = false := decide_eq_false c4
    clear c4
    obtain rfl := Option.some.inj H
    go_enter Try.func13, Try.ntmps13
    go_wp2_with (first | ((with_reducible refine gate_callee (f := 11) rfl ?_); refine goesL_ (some 8) rfl rfl Try.func11 (by kernel_rfl) rfl #[.int .i64 a0, .slice A1 l1.length c1] rfl (by (try simp only [List.map_toArray, List.map_cons, List.map_nil]); first | done | rfl | (simp only [List.length_drop, List.length_take]; rfl)) ?_; (with_reducible refine (vote_Need.calls a0 _ _ l1 t104 _ ?side1 ?side2 A3.out).mono ?_); (case side1 => repeat (first | exact HR1.out | (with_reducible refine Kd.C_alloc ?_ _) | (with_reducible refine Kd.C_drewN ?_ _) | (with_reducible refine Kd.C_drew ?_))); (case side2 => exact HC1.out); rintro e w8 ⟨rfl, hb⟩; refine ⟨_, rfl, ?_⟩; have n0_ := Aside0.mk (below_step (by repeat (first | (with_reducible first | exact HB.out | apply below_alloc | apply pw_below_drewN | apply below_drew1) | exact HB.out)) hb); clear HB; have HB := n0_; clear n0_; (try clear hb); (try clear hb2); (try clear hgn); (try clear hk); (try clear hi)))
    go_ret
    exact ⟨by first | rfl | (simp [errW_none, errW_some] <;> rfl) | (simp [*, errW_none, errW_some] <;> rfl), by repeat (first | (with_reducible first | exact HB.out | apply below_alloc | apply pw_below_drewN | apply below_drew1) | exact HB.out)⟩

/-! ### vote_Healthy: function 15 -/
-- making=1 rounds=0
def vote_Healthy.f (a0 : Int) (l1 : List S29) : Option Bool := if l1.length ≤ 1000000 then (vote_Trips.f a0 l1).bind fun t => some (decide (cntS votesS l1 = l1.length) && !t) else none
set_option maxHeartbeats 800000 in
theorem vote_Healthy.calls (a0 : Int) (A1 : Option Addr) (c1 : Nat) (l1 : List S29) (r : Bool) (w : World) (hr1 : Kd.C k29 w A1 l1.length l1) (hc1 : l1.length ≤ c1) (h : vote_Healthy.f a0 l1 = some r) :
    Calls Try.prog 15 #[.int .i64 a0, .slice A1 l1.length c1] w fun e w' => e = .returned (.bool r) ∧ Below w.heap.size w w' := by
  unfold vote_Healthy.f at h
  by_cases hn : l1.length ≤ 1000000
  case neg => rw [if_neg hn] at h; cases h
  rw [if_pos hn] at h
  obtain ⟨t, ht, h⟩ := Option.bind_eq_some_iff.mp h
  injection h with h
  subst h
  have H := Aside0.mk (many_19 A1 c1 l1 w hn hr1)
  have HR := Aside0.mk hr1
  have HT := Aside0.mk ht
  clear hr1 ht
  by_cases heq : cntS votesS l1 = l1.length
  · have hq : ((cntS votesS l1 : Int) == (l1.length : Int)) = true := by simp [heq]
    have HE := Aside0.mk heq
    clear heq
    go_enter Try.func15, Try.ntmps15
    go_wp2_with fail
    refine H.out.mono ?_
    rintro e w1 ⟨rfl, hb⟩
    have HB := Aside0.mk hb
    clear hb
    go_wp2_with fail
    refine (vote_Trips.calls a0 A1 c1 l1 t _ (Kd.C_below HR.out HB.out) hc1 HT.out).mono ?_
    rintro e w2 ⟨rfl, hb⟩
    have HB2 := Aside0.mk (below_then HB.out HB.out.size hb)
    clear hb
    go_wp2
    go_ret
    exact ⟨by simp [HE.out], HB2.out⟩
  · have hq : ((cntS votesS l1 : Int) == (l1.length : Int)) = false := by simp; omega
    have HE := Aside0.mk heq
    clear heq
    go_enter Try.func15, Try.ntmps15
    go_wp2_with fail
    refine H.out.mono ?_
    rintro e w1 ⟨rfl, hb⟩
    have HB := Aside0.mk hb
    clear hb
    go_wp2
    go_ret
    exact ⟨by simp [HE.out], HB.out⟩

/-! ### watchkeeperlaw13_head: function 8 -/
-- making=1 rounds=0
theorem flat_at (l : List S29) : ∀ (j i : Nat) (p : S29), l[j]? = some p → i < 3 → (l.flatMap fun x => [Value.bool x.f0, .bool x.f1, .bool x.f2])[j * 3 + i]? = [Value.bool p.f0, .bool p.f1, .bool p.f2][i]? := by
  induction l with
  | nil => intro j i p h; simp at h
  | cons x l ih =>
    intro j i p h hi
    cases j with
    | zero =>
      simp at h; subst h
      simp only [List.flatMap_cons, Nat.zero_mul, Nat.zero_add]
      rw [List.getElem?_append_left (by simpa using hi)]
    | succ j =>
      simp only [List.flatMap_cons]
      rw [List.getElem?_append_right (by simp; try omega)]
      have := ih j i p (by simpa using h) hi
      rw [← this]; congr 1; simp; omega
theorem C_lit (w : World) (g : Nat) (l : List S29) (cs : Array Value) (h : w.heap[g]? = some (.cells cs 29 (0, 0))) (hl : l.length ≤ 1000) (hcs : cs.toList = l.flatMap fun x => [Value.bool x.f0, .bool x.f1, .bool x.f2]) :
    Kd.C k29 w (some ⟨g, 0, none⟩) l.length l := by
  refine ⟨rfl, by omega, fun _ => ⟨_, rfl, fun j p hp => ⟨_, rfl, k29_mk w p, fun i u hu => ?_⟩⟩⟩
  have hi : i < 3 := by have := (List.getElem?_eq_some_iff.1 hu).1; simpa using this
  rw [add_plain, blk_cell h]
  have e := flat_at l j i p hp hi
  rw [← hcs] at e
  have e2 : cs[j * 3 + i]? = cs.toList[j * 3 + i]? := by simp
  show cs[j * 3 + i]? = some u
  rw [e2, e]; exact hu
def watchkeeperlaw13_head.f : Option Bool := some true
set_option maxHeartbeats 4000000 in
set_option maxRecDepth 100000 in
theorem watchkeeperlaw13_head.calls (r : Bool) (w : World) (h : watchkeeperlaw13_head.f = some r) : Calls Try.prog 8 #[] w fun e w' => e = .returned (.bool r) ∧ Below w.heap.size w w' := by
  injection h with h
  subst h
  go_enter Try.func8, Try.ntmps8
  go_wp2_with fail
  refine (vote_Trips.calls 2 (some ⟨(w.heap.size + 1 + 1 + 1 + 1), 0, none⟩) 3 [⟨true, false, false⟩, ⟨false, false, false⟩, ⟨false, true, false⟩] true (((((w.alloc (.cells #[.bool true, .bool false, .bool false] 29)).alloc (.cells #[.bool false, .bool false, .bool false] 29)).alloc (.cells #[.bool false, .bool true, .bool false] 29)).alloc (.cells #[.bool true, .bool false, .bool true] 29)).alloc (.cells #[.bool true, .bool false, .bool false, .bool false, .bool false, .bool false, .bool false, .bool true, .bool false] 29)) (C_lit _ _ _ _ (by simpa using blk_new ((((w.alloc (.cells #[.bool true, .bool false, .bool false] 29)).alloc (.cells #[.bool false, .bool false, .bool false] 29)).alloc (.cells #[.bool false, .bool true, .bool false] 29)).alloc (.cells #[.bool true, .bool false, .bool true] 29)) (.cells #[.bool true, .bool false, .bool false, .bool false, .bool false, .bool false, .bool false, .bool true, .bool false] 29)) (by decide) rfl) (by decide) (by decide +kernel)).mono ?_
  rintro e w1 ⟨rfl, hb⟩
  have ny : w1.heap[w.heap.size]? = some (.cells #[.bool true, .bool false, .bool false] 29 (0, 0)) := by simpa using blk_below (blk_alloc (blk_alloc (blk_alloc (blk_alloc (blk_new w (.cells #[.bool true, .bool false, .bool false] 29)) _) _) _) _) hb
  have nn : w1.heap[w.heap.size + 1]? = some (.cells #[.bool false, .bool false, .bool false] 29 (0, 0)) := by simpa using blk_below (blk_alloc (blk_alloc (blk_alloc (blk_new (w.alloc (.cells #[.bool true, .bool false, .bool false] 29)) (.cells #[.bool false, .bool false, .bool false] 29)) _) _) _) hb
  have nb : w1.heap[w.heap.size + 1 + 1]? = some (.cells #[.bool false, .bool true, .bool false] 29 (0, 0)) := by simpa using blk_below (blk_alloc (blk_alloc (blk_new ((w.alloc (.cells #[.bool true, .bool false, .bool false] 29)).alloc (.cells #[.bool false, .bool false, .bool false] 29)) (.cells #[.bool false, .bool true, .bool false] 29)) _) _) hb
  have np : w1.heap[w.heap.size + 1 + 1 + 1]? = some (.cells #[.bool true, .bool false, .bool true] 29 (0, 0)) := by simpa using blk_below (blk_alloc (blk_new (((w.alloc (.cells #[.bool true, .bool false, .bool false] 29)).alloc (.cells #[.bool false, .bool false, .bool false] 29)).alloc (.cells #[.bool false, .bool true, .bool false] 29)) (.cells #[.bool true, .bool false, .bool true] 29)) _) hb
  have nB := Aside0.mk (hb.mono (B' := w.heap.size) (by simp; try omega))
  have nB2 : Below w.heap.size w w1 := ((((((Below.refl _ _).alloc (Nat.le_refl _) _).alloc (by simp) _).alloc (by simp; try omega) _).alloc (by simp; try omega) _).alloc (by simp; try omega) _).trans nB.out
  clear nB
  clear hb
  have HB := Aside0.mk nB2
  clear nB2
  have BKy := Aside0.mk ny
  clear ny
  have hcy0 : w1.cell? ⟨w.heap.size, 0, none⟩ = some (.bool true) := (blk_cell BKy.out 0).trans rfl
  have hfy0 := blk_frozen BKy.out 0
  have hcy1 : w1.cell? ⟨w.heap.size, 1, none⟩ = some (.bool false) := (blk_cell BKy.out 1).trans rfl
  have hfy1 := blk_frozen BKy.out 1
  have hcy2 : w1.cell? ⟨w.heap.size, 2, none⟩ = some (.bool false) := (blk_cell BKy.out 2).trans rfl
  have hfy2 := blk_frozen BKy.out 2
  have BKn := Aside0.mk nn
  clear nn
  have hcn0 : w1.cell? ⟨w.heap.size + 1, 0, none⟩ = some (.bool false) := (blk_cell BKn.out 0).trans rfl
  have hfn0 := blk_frozen BKn.out 0
  have hcn1 : w1.cell? ⟨w.heap.size + 1, 1, none⟩ = some (.bool false) := (blk_cell BKn.out 1).trans rfl
  have hfn1 := blk_frozen BKn.out 1
  have hcn2 : w1.cell? ⟨w.heap.size + 1, 2, none⟩ = some (.bool false) := (blk_cell BKn.out 2).trans rfl
  have hfn2 := blk_frozen BKn.out 2
  have BKb := Aside0.mk nb
  clear nb
  have hcb0 : w1.cell? ⟨w.heap.size + 1 + 1, 0, none⟩ = some (.bool false) := (blk_cell BKb.out 0).trans rfl
  have hfb0 := blk_frozen BKb.out 0
  have hcb1 : w1.cell? ⟨w.heap.size + 1 + 1, 1, none⟩ = some (.bool true) := (blk_cell BKb.out 1).trans rfl
  have hfb1 := blk_frozen BKb.out 1
  have hcb2 : w1.cell? ⟨w.heap.size + 1 + 1, 2, none⟩ = some (.bool false) := (blk_cell BKb.out 2).trans rfl
  have hfb2 := blk_frozen BKb.out 2
  have BKp := Aside0.mk np
  clear np
  have hcp0 : w1.cell? ⟨w.heap.size + 1 + 1 + 1, 0, none⟩ = some (.bool true) := (blk_cell BKp.out 0).trans rfl
  have hfp0 := blk_frozen BKp.out 0
  have hcp1 : w1.cell? ⟨w.heap.size + 1 + 1 + 1, 1, none⟩ = some (.bool false) := (blk_cell BKp.out 1).trans rfl
  have hfp1 := blk_frozen BKp.out 1
  have hcp2 : w1.cell? ⟨w.heap.size + 1 + 1 + 1, 2, none⟩ = some (.bool true) := (blk_cell BKp.out 2).trans rfl
  have hfp2 := blk_frozen BKp.out 2
  go_wp2_with fail
  refine (vote_Trips.calls 2 (some ⟨w1.heap.size, 0, none⟩) 3 [⟨true, false, false⟩, ⟨false, false, false⟩, ⟨false, false, false⟩] false (w1.alloc (.cells #[.bool true, .bool false, .bool false, .bool false, .bool false, .bool false, .bool false, .bool false, .bool false] 29)) (C_lit _ _ _ _ (blk_new w1 (.cells #[.bool true, .bool false, .bool false, .bool false, .bool false, .bool false, .bool false, .bool false, .bool false] 29)) (by decide) rfl) (by decide) (by decide +kernel)).mono ?_
  rintro e w2 ⟨rfl, hb⟩
  have ny : w2.heap[w.heap.size]? = some (.cells #[.bool true, .bool false, .bool false] 29 (0, 0)) := blk_below (blk_alloc BKy.out _) hb
  have nn : w2.heap[w.heap.size + 1]? = some (.cells #[.bool false, .bool false, .bool false] 29 (0, 0)) := blk_below (blk_alloc BKn.out _) hb
  have nb : w2.heap[w.heap.size + 1 + 1]? = some (.cells #[.bool false, .bool true, .bool false] 29 (0, 0)) := blk_below (blk_alloc BKb.out _) hb
  have np : w2.heap[w.heap.size + 1 + 1 + 1]? = some (.cells #[.bool true, .bool false, .bool true] 29 (0, 0)) := blk_below (blk_alloc BKp.out _) hb
  have nB2 : Below w.heap.size w w2 := below_then (HB.out.alloc HB.out.size _) (Nat.le_trans HB.out.size (by simp)) hb
  clear hb HB BKy BKn BKb BKp hcy0 hfy0 hcy1 hfy1 hcy2 hfy2 hcn0 hfn0 hcn1 hfn1 hcn2 hfn2 hcb0 hfb0 hcb1 hfb1 hcb2 hfb2 hcp0 hfp0 hcp1 hfp1 hcp2 hfp2
  have HB := Aside0.mk nB2
  clear nB2
  have BKy := Aside0.mk ny
  clear ny
  have hcy0 : w2.cell? ⟨w.heap.size, 0, none⟩ = some (.bool true) := (blk_cell BKy.out 0).trans rfl
  have hfy0 := blk_frozen BKy.out 0
  have hcy1 : w2.cell? ⟨w.heap.size, 1, none⟩ = some (.bool false) := (blk_cell BKy.out 1).trans rfl
  have hfy1 := blk_frozen BKy.out 1
  have hcy2 : w2.cell? ⟨w.heap.size, 2, none⟩ = some (.bool false) := (blk_cell BKy.out 2).trans rfl
  have hfy2 := blk_frozen BKy.out 2
  have BKn := Aside0.mk nn
  clear nn
  have hcn0 : w2.cell? ⟨w.heap.size + 1, 0, none⟩ = some (.bool false) := (blk_cell BKn.out 0).trans rfl
  have hfn0 := blk_frozen BKn.out 0
  have hcn1 : w2.cell? ⟨w.heap.size + 1, 1, none⟩ = some (.bool false) := (blk_cell BKn.out 1).trans rfl
  have hfn1 := blk_frozen BKn.out 1
  have hcn2 : w2.cell? ⟨w.heap.size + 1, 2, none⟩ = some (.bool false) := (blk_cell BKn.out 2).trans rfl
  have hfn2 := blk_frozen BKn.out 2
  have BKb := Aside0.mk nb
  clear nb
  have hcb0 : w2.cell? ⟨w.heap.size + 1 + 1, 0, none⟩ = some (.bool false) := (blk_cell BKb.out 0).trans rfl
  have hfb0 := blk_frozen BKb.out 0
  have hcb1 : w2.cell? ⟨w.heap.size + 1 + 1, 1, none⟩ = some (.bool true) := (blk_cell BKb.out 1).trans rfl
  have hfb1 := blk_frozen BKb.out 1
  have hcb2 : w2.cell? ⟨w.heap.size + 1 + 1, 2, none⟩ = some (.bool false) := (blk_cell BKb.out 2).trans rfl
  have hfb2 := blk_frozen BKb.out 2
  have BKp := Aside0.mk np
  clear np
  have hcp0 : w2.cell? ⟨w.heap.size + 1 + 1 + 1, 0, none⟩ = some (.bool true) := (blk_cell BKp.out 0).trans rfl
  have hfp0 := blk_frozen BKp.out 0
  have hcp1 : w2.cell? ⟨w.heap.size + 1 + 1 + 1, 1, none⟩ = some (.bool false) := (blk_cell BKp.out 1).trans rfl
  have hfp1 := blk_frozen BKp.out 1
  have hcp2 : w2.cell? ⟨w.heap.size + 1 + 1 + 1, 2, none⟩ = some (.bool true) := (blk_cell BKp.out 2).trans rfl
  have hfp2 := blk_frozen BKp.out 2
  go_wp2_with fail
  refine (vote_Trips.calls 2 (some ⟨w2.heap.size, 0, none⟩) 2 [⟨true, false, false⟩, ⟨true, false, true⟩] true (w2.alloc (.cells #[.bool true, .bool false, .bool false, .bool true, .bool false, .bool true] 29)) (C_lit _ _ _ _ (blk_new w2 (.cells #[.bool true, .bool false, .bool false, .bool true, .bool false, .bool true] 29)) (by decide) rfl) (by decide) (by decide +kernel)).mono ?_
  rintro e w3 ⟨rfl, hb⟩
  have ny : w3.heap[w.heap.size]? = some (.cells #[.bool true, .bool false, .bool false] 29 (0, 0)) := blk_below (blk_alloc BKy.out _) hb
  have nn : w3.heap[w.heap.size + 1]? = some (.cells #[.bool false, .bool false, .bool false] 29 (0, 0)) := blk_below (blk_alloc BKn.out _) hb
  have nb : w3.heap[w.heap.size + 1 + 1]? = some (.cells #[.bool false, .bool true, .bool false] 29 (0, 0)) := blk_below (blk_alloc BKb.out _) hb
  have np : w3.heap[w.heap.size + 1 + 1 + 1]? = some (.cells #[.bool true, .bool false, .bool true] 29 (0, 0)) := blk_below (blk_alloc BKp.out _) hb
  have nB2 : Below w.heap.size w w3 := below_then (HB.out.alloc HB.out.size _) (Nat.le_trans HB.out.size (by simp)) hb
  clear hb HB BKy BKn BKb BKp hcy0 hfy0 hcy1 hfy1 hcy2 hfy2 hcn0 hfn0 hcn1 hfn1 hcn2 hfn2 hcb0 hfb0 hcb1 hfb1 hcb2 hfb2 hcp0 hfp0 hcp1 hfp1 hcp2 hfp2
  have HB := Aside0.mk nB2
  clear nB2
  have BKy := Aside0.mk ny
  clear ny
  have hcy0 : w3.cell? ⟨w.heap.size, 0, none⟩ = some (.bool true) := (blk_cell BKy.out 0).trans rfl
  have hfy0 := blk_frozen BKy.out 0
  have hcy1 : w3.cell? ⟨w.heap.size, 1, none⟩ = some (.bool false) := (blk_cell BKy.out 1).trans rfl
  have hfy1 := blk_frozen BKy.out 1
  have hcy2 : w3.cell? ⟨w.heap.size, 2, none⟩ = some (.bool false) := (blk_cell BKy.out 2).trans rfl
  have hfy2 := blk_frozen BKy.out 2
  have BKn := Aside0.mk nn
  clear nn
  have hcn0 : w3.cell? ⟨w.heap.size + 1, 0, none⟩ = some (.bool false) := (blk_cell BKn.out 0).trans rfl
  have hfn0 := blk_frozen BKn.out 0
  have hcn1 : w3.cell? ⟨w.heap.size + 1, 1, none⟩ = some (.bool false) := (blk_cell BKn.out 1).trans rfl
  have hfn1 := blk_frozen BKn.out 1
  have hcn2 : w3.cell? ⟨w.heap.size + 1, 2, none⟩ = some (.bool false) := (blk_cell BKn.out 2).trans rfl
  have hfn2 := blk_frozen BKn.out 2
  have BKb := Aside0.mk nb
  clear nb
  have hcb0 : w3.cell? ⟨w.heap.size + 1 + 1, 0, none⟩ = some (.bool false) := (blk_cell BKb.out 0).trans rfl
  have hfb0 := blk_frozen BKb.out 0
  have hcb1 : w3.cell? ⟨w.heap.size + 1 + 1, 1, none⟩ = some (.bool true) := (blk_cell BKb.out 1).trans rfl
  have hfb1 := blk_frozen BKb.out 1
  have hcb2 : w3.cell? ⟨w.heap.size + 1 + 1, 2, none⟩ = some (.bool false) := (blk_cell BKb.out 2).trans rfl
  have hfb2 := blk_frozen BKb.out 2
  have BKp := Aside0.mk np
  clear np
  have hcp0 : w3.cell? ⟨w.heap.size + 1 + 1 + 1, 0, none⟩ = some (.bool true) := (blk_cell BKp.out 0).trans rfl
  have hfp0 := blk_frozen BKp.out 0
  have hcp1 : w3.cell? ⟨w.heap.size + 1 + 1 + 1, 1, none⟩ = some (.bool false) := (blk_cell BKp.out 1).trans rfl
  have hfp1 := blk_frozen BKp.out 1
  have hcp2 : w3.cell? ⟨w.heap.size + 1 + 1 + 1, 2, none⟩ = some (.bool true) := (blk_cell BKp.out 2).trans rfl
  have hfp2 := blk_frozen BKp.out 2
  go_wp2_with fail
  refine (vote_Trips.calls 1 (some ⟨w3.heap.size, 0, none⟩) 1 [⟨true, false, true⟩] false (w3.alloc (.cells #[.bool true, .bool false, .bool true] 29)) (C_lit _ _ _ _ (blk_new w3 (.cells #[.bool true, .bool false, .bool true] 29)) (by decide) rfl) (by decide) (by decide +kernel)).mono ?_
  rintro e w4 ⟨rfl, hb⟩
  have ny : w4.heap[w.heap.size]? = some (.cells #[.bool true, .bool false, .bool false] 29 (0, 0)) := blk_below (blk_alloc BKy.out _) hb
  have nn : w4.heap[w.heap.size + 1]? = some (.cells #[.bool false, .bool false, .bool false] 29 (0, 0)) := blk_below (blk_alloc BKn.out _) hb
  have nb : w4.heap[w.heap.size + 1 + 1]? = some (.cells #[.bool false, .bool true, .bool false] 29 (0, 0)) := blk_below (blk_alloc BKb.out _) hb
  have np : w4.heap[w.heap.size + 1 + 1 + 1]? = some (.cells #[.bool true, .bool false, .bool true] 29 (0, 0)) := blk_below (blk_alloc BKp.out _) hb
  have nB2 : Below w.heap.size w w4 := below_then (HB.out.alloc HB.out.size _) (Nat.le_trans HB.out.size (by simp)) hb
  clear hb HB BKy BKn BKb BKp hcy0 hfy0 hcy1 hfy1 hcy2 hfy2 hcn0 hfn0 hcn1 hfn1 hcn2 hfn2 hcb0 hfb0 hcb1 hfb1 hcb2 hfb2 hcp0 hfp0 hcp1 hfp1 hcp2 hfp2
  have HB := Aside0.mk nB2
  clear nB2
  have BKy := Aside0.mk ny
  clear ny
  have hcy0 : w4.cell? ⟨w.heap.size, 0, none⟩ = some (.bool true) := (blk_cell BKy.out 0).trans rfl
  have hfy0 := blk_frozen BKy.out 0
  have hcy1 : w4.cell? ⟨w.heap.size, 1, none⟩ = some (.bool false) := (blk_cell BKy.out 1).trans rfl
  have hfy1 := blk_frozen BKy.out 1
  have hcy2 : w4.cell? ⟨w.heap.size, 2, none⟩ = some (.bool false) := (blk_cell BKy.out 2).trans rfl
  have hfy2 := blk_frozen BKy.out 2
  have BKn := Aside0.mk nn
  clear nn
  have hcn0 : w4.cell? ⟨w.heap.size + 1, 0, none⟩ = some (.bool false) := (blk_cell BKn.out 0).trans rfl
  have hfn0 := blk_frozen BKn.out 0
  have hcn1 : w4.cell? ⟨w.heap.size + 1, 1, none⟩ = some (.bool false) := (blk_cell BKn.out 1).trans rfl
  have hfn1 := blk_frozen BKn.out 1
  have hcn2 : w4.cell? ⟨w.heap.size + 1, 2, none⟩ = some (.bool false) := (blk_cell BKn.out 2).trans rfl
  have hfn2 := blk_frozen BKn.out 2
  have BKb := Aside0.mk nb
  clear nb
  have hcb0 : w4.cell? ⟨w.heap.size + 1 + 1, 0, none⟩ = some (.bool false) := (blk_cell BKb.out 0).trans rfl
  have hfb0 := blk_frozen BKb.out 0
  have hcb1 : w4.cell? ⟨w.heap.size + 1 + 1, 1, none⟩ = some (.bool true) := (blk_cell BKb.out 1).trans rfl
  have hfb1 := blk_frozen BKb.out 1
  have hcb2 : w4.cell? ⟨w.heap.size + 1 + 1, 2, none⟩ = some (.bool false) := (blk_cell BKb.out 2).trans rfl
  have hfb2 := blk_frozen BKb.out 2
  have BKp := Aside0.mk np
  clear np
  have hcp0 : w4.cell? ⟨w.heap.size + 1 + 1 + 1, 0, none⟩ = some (.bool true) := (blk_cell BKp.out 0).trans rfl
  have hfp0 := blk_frozen BKp.out 0
  have hcp1 : w4.cell? ⟨w.heap.size + 1 + 1 + 1, 1, none⟩ = some (.bool false) := (blk_cell BKp.out 1).trans rfl
  have hfp1 := blk_frozen BKp.out 1
  have hcp2 : w4.cell? ⟨w.heap.size + 1 + 1 + 1, 2, none⟩ = some (.bool true) := (blk_cell BKp.out 2).trans rfl
  have hfp2 := blk_frozen BKp.out 2
  go_wp2_with fail
  refine (vote_Need.calls 2 (some ⟨w4.heap.size, 0, none⟩) 2 [⟨true, false, false⟩, ⟨true, false, true⟩] 1 (w4.alloc (.cells #[.bool true, .bool false, .bool false, .bool true, .bool false, .bool true] 29)) (C_lit _ _ _ _ (blk_new w4 (.cells #[.bool true, .bool false, .bool false, .bool true, .bool false, .bool true] 29)) (by decide) rfl) (by decide) (by decide +kernel)).mono ?_
  rintro e w5 ⟨rfl, hb⟩
  have ny : w5.heap[w.heap.size]? = some (.cells #[.bool true, .bool false, .bool false] 29 (0, 0)) := blk_below (blk_alloc BKy.out _) hb
  have nn : w5.heap[w.heap.size + 1]? = some (.cells #[.bool false, .bool false, .bool false] 29 (0, 0)) := blk_below (blk_alloc BKn.out _) hb
  have nb : w5.heap[w.heap.size + 1 + 1]? = some (.cells #[.bool false, .bool true, .bool false] 29 (0, 0)) := blk_below (blk_alloc BKb.out _) hb
  have np : w5.heap[w.heap.size + 1 + 1 + 1]? = some (.cells #[.bool true, .bool false, .bool true] 29 (0, 0)) := blk_below (blk_alloc BKp.out _) hb
  have nB2 : Below w.heap.size w w5 := below_then (HB.out.alloc HB.out.size _) (Nat.le_trans HB.out.size (by simp)) hb
  clear hb HB BKy BKn BKb BKp hcy0 hfy0 hcy1 hfy1 hcy2 hfy2 hcn0 hfn0 hcn1 hfn1 hcn2 hfn2 hcb0 hfb0 hcb1 hfb1 hcb2 hfb2 hcp0 hfp0 hcp1 hfp1 hcp2 hfp2
  have HB := Aside0.mk nB2
  clear nB2
  have BKy := Aside0.mk ny
  clear ny
  have hcy0 : w5.cell? ⟨w.heap.size, 0, none⟩ = some (.bool true) := (blk_cell BKy.out 0).trans rfl
  have hfy0 := blk_frozen BKy.out 0
  have hcy1 : w5.cell? ⟨w.heap.size, 1, none⟩ = some (.bool false) := (blk_cell BKy.out 1).trans rfl
  have hfy1 := blk_frozen BKy.out 1
  have hcy2 : w5.cell? ⟨w.heap.size, 2, none⟩ = some (.bool false) := (blk_cell BKy.out 2).trans rfl
  have hfy2 := blk_frozen BKy.out 2
  have BKn := Aside0.mk nn
  clear nn
  have hcn0 : w5.cell? ⟨w.heap.size + 1, 0, none⟩ = some (.bool false) := (blk_cell BKn.out 0).trans rfl
  have hfn0 := blk_frozen BKn.out 0
  have hcn1 : w5.cell? ⟨w.heap.size + 1, 1, none⟩ = some (.bool false) := (blk_cell BKn.out 1).trans rfl
  have hfn1 := blk_frozen BKn.out 1
  have hcn2 : w5.cell? ⟨w.heap.size + 1, 2, none⟩ = some (.bool false) := (blk_cell BKn.out 2).trans rfl
  have hfn2 := blk_frozen BKn.out 2
  have BKb := Aside0.mk nb
  clear nb
  have hcb0 : w5.cell? ⟨w.heap.size + 1 + 1, 0, none⟩ = some (.bool false) := (blk_cell BKb.out 0).trans rfl
  have hfb0 := blk_frozen BKb.out 0
  have hcb1 : w5.cell? ⟨w.heap.size + 1 + 1, 1, none⟩ = some (.bool true) := (blk_cell BKb.out 1).trans rfl
  have hfb1 := blk_frozen BKb.out 1
  have hcb2 : w5.cell? ⟨w.heap.size + 1 + 1, 2, none⟩ = some (.bool false) := (blk_cell BKb.out 2).trans rfl
  have hfb2 := blk_frozen BKb.out 2
  have BKp := Aside0.mk np
  clear np
  have hcp0 : w5.cell? ⟨w.heap.size + 1 + 1 + 1, 0, none⟩ = some (.bool true) := (blk_cell BKp.out 0).trans rfl
  have hfp0 := blk_frozen BKp.out 0
  have hcp1 : w5.cell? ⟨w.heap.size + 1 + 1 + 1, 1, none⟩ = some (.bool false) := (blk_cell BKp.out 1).trans rfl
  have hfp1 := blk_frozen BKp.out 1
  have hcp2 : w5.cell? ⟨w.heap.size + 1 + 1 + 1, 2, none⟩ = some (.bool true) := (blk_cell BKp.out 2).trans rfl
  have hfp2 := blk_frozen BKp.out 2
  go_wp2_with fail
  refine (vote_Yes.calls (some ⟨w5.heap.size, 0, none⟩) 4 [⟨true, false, false⟩, ⟨false, true, false⟩, ⟨true, false, true⟩, ⟨false, false, false⟩] 2 (w5.alloc (.cells #[.bool true, .bool false, .bool false, .bool false, .bool true, .bool false, .bool true, .bool false, .bool true, .bool false, .bool false, .bool false] 29)) (C_lit _ _ _ _ (blk_new w5 (.cells #[.bool true, .bool false, .bool false, .bool false, .bool true, .bool false, .bool true, .bool false, .bool true, .bool false, .bool false, .bool false] 29)) (by decide) rfl) (by decide) (by decide +kernel)).mono ?_
  rintro e w6 ⟨rfl, hb⟩
  have ny : w6.heap[w.heap.size]? = some (.cells #[.bool true, .bool false, .bool false] 29 (0, 0)) := blk_below (blk_alloc BKy.out _) hb
  have nn : w6.heap[w.heap.size + 1]? = some (.cells #[.bool false, .bool false, .bool false] 29 (0, 0)) := blk_below (blk_alloc BKn.out _) hb
  have nb : w6.heap[w.heap.size + 1 + 1]? = some (.cells #[.bool false, .bool true, .bool false] 29 (0, 0)) := blk_below (blk_alloc BKb.out _) hb
  have np : w6.heap[w.heap.size + 1 + 1 + 1]? = some (.cells #[.bool true, .bool false, .bool true] 29 (0, 0)) := blk_below (blk_alloc BKp.out _) hb
  have nB2 : Below w.heap.size w w6 := below_then (HB.out.alloc HB.out.size _) (Nat.le_trans HB.out.size (by simp)) hb
  clear hb HB BKy BKn BKb BKp hcy0 hfy0 hcy1 hfy1 hcy2 hfy2 hcn0 hfn0 hcn1 hfn1 hcn2 hfn2 hcb0 hfb0 hcb1 hfb1 hcb2 hfb2 hcp0 hfp0 hcp1 hfp1 hcp2 hfp2
  have HB := Aside0.mk nB2
  clear nB2
  have BKy := Aside0.mk ny
  clear ny
  have hcy0 : w6.cell? ⟨w.heap.size, 0, none⟩ = some (.bool true) := (blk_cell BKy.out 0).trans rfl
  have hfy0 := blk_frozen BKy.out 0
  have hcy1 : w6.cell? ⟨w.heap.size, 1, none⟩ = some (.bool false) := (blk_cell BKy.out 1).trans rfl
  have hfy1 := blk_frozen BKy.out 1
  have hcy2 : w6.cell? ⟨w.heap.size, 2, none⟩ = some (.bool false) := (blk_cell BKy.out 2).trans rfl
  have hfy2 := blk_frozen BKy.out 2
  have BKn := Aside0.mk nn
  clear nn
  have hcn0 : w6.cell? ⟨w.heap.size + 1, 0, none⟩ = some (.bool false) := (blk_cell BKn.out 0).trans rfl
  have hfn0 := blk_frozen BKn.out 0
  have hcn1 : w6.cell? ⟨w.heap.size + 1, 1, none⟩ = some (.bool false) := (blk_cell BKn.out 1).trans rfl
  have hfn1 := blk_frozen BKn.out 1
  have hcn2 : w6.cell? ⟨w.heap.size + 1, 2, none⟩ = some (.bool false) := (blk_cell BKn.out 2).trans rfl
  have hfn2 := blk_frozen BKn.out 2
  have BKb := Aside0.mk nb
  clear nb
  have hcb0 : w6.cell? ⟨w.heap.size + 1 + 1, 0, none⟩ = some (.bool false) := (blk_cell BKb.out 0).trans rfl
  have hfb0 := blk_frozen BKb.out 0
  have hcb1 : w6.cell? ⟨w.heap.size + 1 + 1, 1, none⟩ = some (.bool true) := (blk_cell BKb.out 1).trans rfl
  have hfb1 := blk_frozen BKb.out 1
  have hcb2 : w6.cell? ⟨w.heap.size + 1 + 1, 2, none⟩ = some (.bool false) := (blk_cell BKb.out 2).trans rfl
  have hfb2 := blk_frozen BKb.out 2
  have BKp := Aside0.mk np
  clear np
  have hcp0 : w6.cell? ⟨w.heap.size + 1 + 1 + 1, 0, none⟩ = some (.bool true) := (blk_cell BKp.out 0).trans rfl
  have hfp0 := blk_frozen BKp.out 0
  have hcp1 : w6.cell? ⟨w.heap.size + 1 + 1 + 1, 1, none⟩ = some (.bool false) := (blk_cell BKp.out 1).trans rfl
  have hfp1 := blk_frozen BKp.out 1
  have hcp2 : w6.cell? ⟨w.heap.size + 1 + 1 + 1, 2, none⟩ = some (.bool true) := (blk_cell BKp.out 2).trans rfl
  have hfp2 := blk_frozen BKp.out 2
  go_wp2_with fail
  refine (vote_Healthy.calls 2 (some ⟨w6.heap.size, 0, none⟩) 2 [⟨true, false, false⟩, ⟨false, false, false⟩] true (w6.alloc (.cells #[.bool true, .bool false, .bool false, .bool false, .bool false, .bool false] 29)) (C_lit _ _ _ _ (blk_new w6 (.cells #[.bool true, .bool false, .bool false, .bool false, .bool false, .bool false] 29)) (by decide) rfl) (by decide) (by decide +kernel)).mono ?_
  rintro e w7 ⟨rfl, hb⟩
  have ny : w7.heap[w.heap.size]? = some (.cells #[.bool true, .bool false, .bool false] 29 (0, 0)) := blk_below (blk_alloc BKy.out _) hb
  have nn : w7.heap[w.heap.size + 1]? = some (.cells #[.bool false, .bool false, .bool false] 29 (0, 0)) := blk_below (blk_alloc BKn.out _) hb
  have nb : w7.heap[w.heap.size + 1 + 1]? = some (.cells #[.bool false, .bool true, .bool false] 29 (0, 0)) := blk_below (blk_alloc BKb.out _) hb
  have np : w7.heap[w.heap.size + 1 + 1 + 1]? = some (.cells #[.bool true, .bool false, .bool true] 29 (0, 0)) := blk_below (blk_alloc BKp.out _) hb
  have nB2 : Below w.heap.size w w7 := below_then (HB.out.alloc HB.out.size _) (Nat.le_trans HB.out.size (by simp)) hb
  clear hb HB BKy BKn BKb BKp hcy0 hfy0 hcy1 hfy1 hcy2 hfy2 hcn0 hfn0 hcn1 hfn1 hcn2 hfn2 hcb0 hfb0 hcb1 hfb1 hcb2 hfb2 hcp0 hfp0 hcp1 hfp1 hcp2 hfp2
  have HB := Aside0.mk nB2
  clear nB2
  have BKy := Aside0.mk ny
  clear ny
  have hcy0 : w7.cell? ⟨w.heap.size, 0, none⟩ = some (.bool true) := (blk_cell BKy.out 0).trans rfl
  have hfy0 := blk_frozen BKy.out 0
  have hcy1 : w7.cell? ⟨w.heap.size, 1, none⟩ = some (.bool false) := (blk_cell BKy.out 1).trans rfl
  have hfy1 := blk_frozen BKy.out 1
  have hcy2 : w7.cell? ⟨w.heap.size, 2, none⟩ = some (.bool false) := (blk_cell BKy.out 2).trans rfl
  have hfy2 := blk_frozen BKy.out 2
  have BKn := Aside0.mk nn
  clear nn
  have hcn0 : w7.cell? ⟨w.heap.size + 1, 0, none⟩ = some (.bool false) := (blk_cell BKn.out 0).trans rfl
  have hfn0 := blk_frozen BKn.out 0
  have hcn1 : w7.cell? ⟨w.heap.size + 1, 1, none⟩ = some (.bool false) := (blk_cell BKn.out 1).trans rfl
  have hfn1 := blk_frozen BKn.out 1
  have hcn2 : w7.cell? ⟨w.heap.size + 1, 2, none⟩ = some (.bool false) := (blk_cell BKn.out 2).trans rfl
  have hfn2 := blk_frozen BKn.out 2
  have BKb := Aside0.mk nb
  clear nb
  have hcb0 : w7.cell? ⟨w.heap.size + 1 + 1, 0, none⟩ = some (.bool false) := (blk_cell BKb.out 0).trans rfl
  have hfb0 := blk_frozen BKb.out 0
  have hcb1 : w7.cell? ⟨w.heap.size + 1 + 1, 1, none⟩ = some (.bool true) := (blk_cell BKb.out 1).trans rfl
  have hfb1 := blk_frozen BKb.out 1
  have hcb2 : w7.cell? ⟨w.heap.size + 1 + 1, 2, none⟩ = some (.bool false) := (blk_cell BKb.out 2).trans rfl
  have hfb2 := blk_frozen BKb.out 2
  have BKp := Aside0.mk np
  clear np
  have hcp0 : w7.cell? ⟨w.heap.size + 1 + 1 + 1, 0, none⟩ = some (.bool true) := (blk_cell BKp.out 0).trans rfl
  have hfp0 := blk_frozen BKp.out 0
  have hcp1 : w7.cell? ⟨w.heap.size + 1 + 1 + 1, 1, none⟩ = some (.bool false) := (blk_cell BKp.out 1).trans rfl
  have hfp1 := blk_frozen BKp.out 1
  have hcp2 : w7.cell? ⟨w.heap.size + 1 + 1 + 1, 2, none⟩ = some (.bool true) := (blk_cell BKp.out 2).trans rfl
  have hfp2 := blk_frozen BKp.out 2
  go_wp2_with fail
  refine (vote_Healthy.calls 2 (some ⟨w7.heap.size, 0, none⟩) 2 [⟨false, false, false⟩, ⟨true, false, true⟩] false (w7.alloc (.cells #[.bool false, .bool false, .bool false, .bool true, .bool false, .bool true] 29)) (C_lit _ _ _ _ (blk_new w7 (.cells #[.bool false, .bool false, .bool false, .bool true, .bool false, .bool true] 29)) (by decide) rfl) (by decide) (by decide +kernel)).mono ?_
  rintro e w8 ⟨rfl, hb⟩
  have ny : w8.heap[w.heap.size]? = some (.cells #[.bool true, .bool false, .bool false] 29 (0, 0)) := blk_below (blk_alloc BKy.out _) hb
  have nn : w8.heap[w.heap.size + 1]? = some (.cells #[.bool false, .bool false, .bool false] 29 (0, 0)) := blk_below (blk_alloc BKn.out _) hb
  have nb : w8.heap[w.heap.size + 1 + 1]? = some (.cells #[.bool false, .bool true, .bool false] 29 (0, 0)) := blk_below (blk_alloc BKb.out _) hb
  have np : w8.heap[w.heap.size + 1 + 1 + 1]? = some (.cells #[.bool true, .bool false, .bool true] 29 (0, 0)) := blk_below (blk_alloc BKp.out _) hb
  have nB2 : Below w.heap.size w w8 := below_then (HB.out.alloc HB.out.size _) (Nat.le_trans HB.out.size (by simp)) hb
  clear hb HB BKy BKn BKb BKp hcy0 hfy0 hcy1 hfy1 hcy2 hfy2 hcn0 hfn0 hcn1 hfn1 hcn2 hfn2 hcb0 hfb0 hcb1 hfb1 hcb2 hfb2 hcp0 hfp0 hcp1 hfp1 hcp2 hfp2
  have HB := Aside0.mk nB2
  clear nB2
  have BKy := Aside0.mk ny
  clear ny
  have hcy0 : w8.cell? ⟨w.heap.size, 0, none⟩ = some (.bool true) := (blk_cell BKy.out 0).trans rfl
  have hfy0 := blk_frozen BKy.out 0
  have hcy1 : w8.cell? ⟨w.heap.size, 1, none⟩ = some (.bool false) := (blk_cell BKy.out 1).trans rfl
  have hfy1 := blk_frozen BKy.out 1
  have hcy2 : w8.cell? ⟨w.heap.size, 2, none⟩ = some (.bool false) := (blk_cell BKy.out 2).trans rfl
  have hfy2 := blk_frozen BKy.out 2
  have BKn := Aside0.mk nn
  clear nn
  have hcn0 : w8.cell? ⟨w.heap.size + 1, 0, none⟩ = some (.bool false) := (blk_cell BKn.out 0).trans rfl
  have hfn0 := blk_frozen BKn.out 0
  have hcn1 : w8.cell? ⟨w.heap.size + 1, 1, none⟩ = some (.bool false) := (blk_cell BKn.out 1).trans rfl
  have hfn1 := blk_frozen BKn.out 1
  have hcn2 : w8.cell? ⟨w.heap.size + 1, 2, none⟩ = some (.bool false) := (blk_cell BKn.out 2).trans rfl
  have hfn2 := blk_frozen BKn.out 2
  have BKb := Aside0.mk nb
  clear nb
  have hcb0 : w8.cell? ⟨w.heap.size + 1 + 1, 0, none⟩ = some (.bool false) := (blk_cell BKb.out 0).trans rfl
  have hfb0 := blk_frozen BKb.out 0
  have hcb1 : w8.cell? ⟨w.heap.size + 1 + 1, 1, none⟩ = some (.bool true) := (blk_cell BKb.out 1).trans rfl
  have hfb1 := blk_frozen BKb.out 1
  have hcb2 : w8.cell? ⟨w.heap.size + 1 + 1, 2, none⟩ = some (.bool false) := (blk_cell BKb.out 2).trans rfl
  have hfb2 := blk_frozen BKb.out 2
  have BKp := Aside0.mk np
  clear np
  have hcp0 : w8.cell? ⟨w.heap.size + 1 + 1 + 1, 0, none⟩ = some (.bool true) := (blk_cell BKp.out 0).trans rfl
  have hfp0 := blk_frozen BKp.out 0
  have hcp1 : w8.cell? ⟨w.heap.size + 1 + 1 + 1, 1, none⟩ = some (.bool false) := (blk_cell BKp.out 1).trans rfl
  have hfp1 := blk_frozen BKp.out 1
  have hcp2 : w8.cell? ⟨w.heap.size + 1 + 1 + 1, 2, none⟩ = some (.bool true) := (blk_cell BKp.out 2).trans rfl
  have hfp2 := blk_frozen BKp.out 2
  go_wp2
  go_ret
  exact ⟨rfl, HB.out⟩

end Go.Proofs.Ythhgomobjcpdoaa.QA
