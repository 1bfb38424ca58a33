/- The reference's queue: what each method comes to. -/
import Derived.Test.YtinipcfnmngccaaC6
namespace Go.Proofs.Ytinipcfnmngccaa
open Go.Conc Go.RowKit Go.Proofs.YtinipcfnmngccaaW.PrintWords Go.Proofs.YtinipcfnmngccaaW.PrintLast Go.Proofs.YtinipcfnmngccaaW.PrintMore
set_option linter.unusedVariables false
set_option linter.unusedSimpArgs false
attribute [local go_sem] max_i min_i
/-- The reference's queue at block r: what waits lies in two rows of its own. -/
structure IsRf (base : Nat) (w : World) (r n : Nat) (vU vO : Value) (us os : List Int) : Prop where
  blk : w.heap[r]? = some (.cells #[.int .i64 n, vU, vO] 50 (0, 0))
  ru : Kd.R (Kd.int .i64) 3 w base (fun k => True ∧ some k ≠ vO.ownBlock) vU us
  ro : Kd.R (Kd.int .i64) 3 w base (fun k => True ∧ some k ≠ vU.ownBlock) vO os
/-- Its block, and rows of numbers, apart all is as it was. -/
structure RF (w w' : World) (r : Nat) : Prop where
  size : w.heap.size ≤ w'.heap.size
  block : ∀ k, k < w.heap.size → k ≠ r → (∀ cells, w.heap[k]? ≠ some (.cells cells 3 (0, 0))) → w'.heap[k]? = w.heap[k]?
theorem IsQ.rf {T : TypeId} {α : Type} {enc : α → Value} {w w' : World} {q b1 b2 n r : Nat} {us os : List α} (h : IsQ T enc w q b1 b2 n us os) (hT : T ≠ 3) (hr : RF w w' r) (hqr : q ≠ r) (h1 : b1 ≠ r) (h2 : b2 ≠ r) : IsQ T enc w' q b1 b2 n us os := by
  obtain ⟨s1, r1, e1⟩ := h.c1
  obtain ⟨s2, r2, e2⟩ := h.c2
  refine h.keep fun k hk hkk => hr.block k hk ?_ ?_
  · rcases hkk with rfl | rfl | rfl <;> assumption
  · intro cells he
    rcases hkk with rfl | rfl | rfl
    · rw [h.blk] at he
      injection he with he
      injection he with _ ht
      exact hT ht
    · rw [e1] at he; cases he
    · rw [e2] at he; cases he
theorem IsRf.only {base : Nat} {w w' : World} {r n q b1 b2 m : Nat} {vU vO : Value} {us os : List Int} {T : TypeId} {α : Type} {enc : α → Value} {us2 os2 : List α} (h : IsRf base w r n vU vO us os) (hq : IsQ T enc w q b1 b2 m us2 os2) (ho : Only w w' b1 b2) (h1 : r ≠ b1) (h2 : r ≠ b2) : IsRf base w' r n vU vO us os :=
  ⟨(ho.block r h1 h2).trans h.blk, R_only h.ru hq ho, R_only h.ro hq ho⟩
theorem IsRf.drewN {base : Nat} {w : World} {r n : Nat} {vU vO : Value} {us os : List Int} (h : IsRf base w r n vU vO us os) (d : Nat) : IsRf base (w.drewN d) r n vU vO us os := ⟨h.blk, Kd.R_drewN h.ru d, Kd.R_drewN h.ro d⟩
theorem IsRf.cell {base : Nat} {w : World} {r n : Nat} {vU vO : Value} {us os : List Int} (h : IsRf base w r n vU vO us os) (i : Nat) : w.cell? ⟨r, i, none⟩ = (#[Value.int .i64 n, vU, vO] : Array Value)[i]? := blk_cell h.blk i
theorem RF.refl (w : World) (r : Nat) : RF w w r := ⟨Nat.le_refl _, fun _ _ _ _ => rfl⟩
theorem rf_drewN (w : World) (r d : Nat) : RF w (w.drewN d) r := ⟨Nat.le_refl _, fun _ _ _ _ => rfl⟩
/-- What a row's growth and a store into the block leave alone. -/
theorem rf_grown {w W w1 : World} {r d : Nat} {v : Value} {base : Nat} {ok : Nat → Prop} {xs : List Int} (hW : W = w.drewN d) (hR : Kd.R (Kd.int .i64) 3 W base ok v xs) (hg : W.grownBy w1 v.ownBlock) (i : Nat) (u : Value) : RF w (w1.setCell ⟨r, i, none⟩ u) r := by
  subst hW
  refine ⟨by have := hg.size; simpa [World.setCell] using this, fun k hk hne h3 => (Below.heap_setCell w1 _ u k hne).trans (hg.block k hk fun he => ?_)⟩
  obtain ⟨cells, hc⟩ := Kd.R_typed hR k he.symm
  exact h3 cells hc
theorem ne3 : ∀ q, q ∈ 3 :: (Kd.int .i64).E → q ≠ 50 := fun q hq => by
  rcases List.mem_cons.1 hq with rfl | h
  · decide
  · cases h
def RPost (base : Nat) (w : World) (r n : Nat) (us os : List Int) (w' : World) : Prop := ∃ vU vO, IsRf base w' r n vU vO us os ∧ RF w w' r ∧ Below base w w'
theorem rnew_any (k : Int) (w : World) : Calls Try.prog 10 #[.int .i64 k] w fun e w' => ∃ r, e = .returned (.pointer (some ⟨r, 0, none⟩)) ∧ w.heap.size ≤ r ∧ IsRf w.heap.size w' r (room k) (.slice none 0 0) (.slice none 0 0) [] [] ∧ Below w.heap.size w w' := by
  obtain ⟨n, hn⟩ : ∃ n, room k = n := ⟨_, rfl⟩
  have hm : min (max k 1) 64 = (n : Int) := by rw [← hn]; unfold room; omega
  have HN := Lib.hid hn
  clear hn
  go_enter Try.func10, Try.ntmps10
  go_wp2_with fail
  go_ret
  rw [HN.out]
  exact ⟨_, rfl, Nat.le_refl _, ⟨blk_new _ _, Kd.R_nil _ _ _ _ _, Kd.R_nil _ _ _ _ _⟩, below_alloc (Below.refl _ _) _⟩
theorem rmany_any (base r n : Nat) (vU vO : Value) (us os : List Int) (w : World) (h : IsRf base w r n vU vO us os) :
    Calls Try.prog 18 #[.pointer (some ⟨r, 0, none⟩)] w fun e w' => e = .returned (.tuple #[.int .i64 (us.length : Nat), .int .i64 (os.length : Nat)]) ∧ ∃ d, w' = w.drewN d := by
  obtain ⟨A5, c5, rfl⟩ := Kd.R_slice h.ru
  obtain ⟨A6, c6, rfl⟩ := Kd.R_slice h.ro
  have h1 : w.cell? ⟨r, 1, none⟩ = some (.slice A5 us.length c5) := (h.cell 1).trans rfl
  have h2 : w.cell? ⟨r, 2, none⟩ = some (.slice A6 os.length c6) := (h.cell 2).trans rfl
  clear h
  go_enter Try.func18, Try.ntmps18
  go_wp2_with fail
  go_quiet (fail)
  go_wp2_with fail
  go_ret2
  exact ⟨rfl, _, rfl⟩
theorem rdrain_any (base r n : Nat) (vU vO : Value) (us os : List Int) (w : World) (hu : us.length ≤ 64) (ho : os.length ≤ 64) (hbr : base ≤ r) (h : IsRf base w r n vU vO us os) :
    Calls Try.prog 14 #[.pointer (some ⟨r, 0, none⟩)] w fun e w' => e = .returned (.int .i64 (us.length + os.length : Nat)) ∧ RPost base w r n [] [] w' := by
  obtain ⟨A5, c5, rfl⟩ := Kd.R_slice h.ru
  obtain ⟨A6, c6, rfl⟩ := Kd.R_slice h.ro
  have h0 : w.cell? ⟨r, 0, none⟩ = some (.int .i64 n) := (h.cell 0).trans rfl
  have h1 : w.cell? ⟨r, 1, none⟩ = some (.slice A5 us.length c5) := (h.cell 1).trans rfl
  have h2 : w.cell? ⟨r, 2, none⟩ = some (.slice A6 os.length c6) := (h.cell 2).trans rfl
  have hf1 := blk_frozen h.blk 1
  have hf2 := blk_frozen h.blk 2
  have H := Lib.hid h
  clear h
  go_enter Try.func14, Try.ntmps14
  go_wp2_with fail
  go_quiet (fail)
  go_wp2_with fail
  go_ret
  refine ⟨by simp, .slice none 0 0, .slice none 0 0, ⟨?_, Kd.R_nil _ _ _ _ _, Kd.R_nil _ _ _ _ _⟩, ?_, ?_⟩
  · exact blk_put (blk_put (show (World.drewN w _).heap[r]? = _ from H.out.blk) 1 _ rfl) 2 _ rfl
  · exact ⟨by simp [World.setCell], fun k hk hne _ => (Below.heap_setCell _ _ _ k hne).trans (Below.heap_setCell _ _ _ k hne)⟩
  · exact ((pw_below_drewN (Below.refl _ _) _).setCell hbr _).setCell hbr _

set_option maxRecDepth 100000 in
set_option maxHeartbeats 2000000 in
theorem rput_u (base r n : Nat) (vU vO : Value) (us os : List Int) (x : Int) (w : World) (hl : us.length ≤ 64) (hbr : base ≤ r) (hbw : base ≤ w.heap.size) (h : IsRf base w r n vU vO us os) :
    Calls Try.prog 16 #[.pointer (some ⟨r, 0, none⟩), .bool true, .int .i64 x] w fun e w' => e = .returned (.bool (qput n true x us os).1) ∧ RPost base w r n (qput n true x us os).2.1 (qput n true x us os).2.2 w' := by
  obtain ⟨A5, c5, rfl⟩ := Kd.R_slice h.ru
  obtain ⟨A6, c6, rfl⟩ := Kd.R_slice h.ro
  have h0 : w.cell? ⟨r, 0, none⟩ = some (.int .i64 n) := (h.cell 0).trans rfl
  have h1 : w.cell? ⟨r, 1, none⟩ = some (.slice A5 us.length c5) := (h.cell 1).trans rfl
  have h2 : w.cell? ⟨r, 2, none⟩ = some (.slice A6 os.length c6) := (h.cell 2).trans rfl
  have H := Lib.hid h
  clear h
  by_cases hroom : us.length < n
  · obtain ⟨z, hz⟩ : ∃ z, us ++ [x] = z := ⟨_, rfl⟩
    have e : qput n true x us os = (true, z, os) := by unfold qput; simp [hroom, hz]
    have HZ := Lib.hid hz
    clear hz
    have HE := Lib.hid e
    have d1 : decide ((n : Int) ≤ (us.length : Int)) = false := decide_eq_false (by omega)
    have d2 : decide (n ≤ us.length) = false := decide_eq_false (by omega)
    have HL : Hid ((us.length + 1) * 8 ≤ 140737488355328) := Lib.hid (by omega)
    clear e
    go_enter Try.func16, Try.ntmps16
    go_wp2_with fail
    go_quiet (fail)
    (try simp only [Act.put, List.setIfInBounds_toArray, List.set_cons_zero, List.set_cons_succ])
    obtain ⟨W, hW⟩ : ∃ W, W = World.drewN w nq := ⟨_, rfl⟩
    rw [← hW]
    have HD : Hid (IsRf base W r n (.slice A5 us.length c5) (.slice A6 os.length c6) us os) := Lib.hid (by rw [hW]; exact H.out.drewN _)
    have HBW : Hid (Below base w W) := Lib.hid (by rw [hW]; exact pw_below_drewN (Below.refl _ _) _)
    have HWW := Lib.hid hW
    have hbW : base ≤ W.heap.size := by rw [hW]; exact hbw
    have h1 : W.cell? ⟨r, 1, none⟩ = some (.slice A5 us.length c5) := (HD.out.cell 1).trans rfl
    clear hW h0 h2 H
    go_wp2_with (at_builtin; refine Kd.R_append (Kd.int .i64) (w0 := w) base rfl (.tmp 22) (.tmp 24) 37 3 (.int .i64 0) 8 rfl Try.underlying37 info3 rfl (by decide) (by decide) _ us x [.int .i64 x] (fun k => True ∧ some k ≠ (Value.slice A6 os.length c6).ownBlock) (fun _ => False) rfl rfl rfl (fun _ h => h.elim) (fun k hk => ⟨trivial, Kd.fresh_ok HD.out.ro k hk⟩) HD.out.ru HBW.out hbW HL.out ?_; intro v1 w4 hR hB4 hG hA; rw [HZ.out] at hR; obtain ⟨A1, c1, rfl⟩ := Kd.R_slice hR; have HR4 := Lib.hid hR; have HY4 := Lib.hid (Kd.R_after HD.out.ro hG hA); have hblk := (hG.block r (blk_lt HD.out.blk) (fun he => by obtain ⟨cells, hc⟩ := Kd.R_typed HD.out.ru r he.symm; rw [HD.out.blk] at hc; injection hc with hc; injection hc with _ ht; exact absurd ht (by decide))).trans HD.out.blk; have hc1 := blk_cell hblk 1; have hf1 := blk_frozen hblk 1; have HBK := Lib.hid hblk; have HB4 := Lib.hid hB4; have HG := Lib.hid hG; clear hR hB4 hA hblk hG)
    go_ret
    rw [HE.out]
    refine ⟨rfl, .slice A1 z.length c1, _, ⟨blk_put HBK.out 1 (.slice A1 z.length c1) rfl, ?_, ?_⟩, rf_grown HWW.out HD.out.ru HG.out 1 _, HB4.out.setCell hbr _⟩
    · exact Kd.R_set HR4.out HBK.out ne3 1 _
    · exact Kd.R_set HY4.out HBK.out ne3 1 _
  · have e : qput n true x us os = (false, us, os) := by unfold qput; simp [hroom]
    have HE := Lib.hid e
    have d1 : decide ((n : Int) ≤ (us.length : Int)) = true := decide_eq_true (by omega)
    have d2 : decide (n ≤ us.length) = true := decide_eq_true (by omega)
    clear e
    go_enter Try.func16, Try.ntmps16
    go_wp2_with fail
    go_quiet (fail)
    go_wp2_with fail
    go_ret
    rw [HE.out]
    exact ⟨rfl, _, _, H.out.drewN _, rf_drewN w r _, pw_below_drewN (Below.refl _ _) _⟩

set_option maxRecDepth 100000 in
set_option maxHeartbeats 2000000 in
theorem rput_o (base r n : Nat) (vU vO : Value) (us os : List Int) (x : Int) (w : World) (hl : os.length ≤ 64) (hbr : base ≤ r) (hbw : base ≤ w.heap.size) (h : IsRf base w r n vU vO us os) :
    Calls Try.prog 16 #[.pointer (some ⟨r, 0, none⟩), .bool false, .int .i64 x] w fun e w' => e = .returned (.bool (qput n false x us os).1) ∧ RPost base w r n (qput n false x us os).2.1 (qput n false x us os).2.2 w' := by
  obtain ⟨A5, c5, rfl⟩ := Kd.R_slice h.ru
  obtain ⟨A6, c6, rfl⟩ := Kd.R_slice h.ro
  have h0 : w.cell? ⟨r, 0, none⟩ = some (.int .i64 n) := (h.cell 0).trans rfl
  have h1 : w.cell? ⟨r, 1, none⟩ = some (.slice A5 us.length c5) := (h.cell 1).trans rfl
  have h2 : w.cell? ⟨r, 2, none⟩ = some (.slice A6 os.length c6) := (h.cell 2).trans rfl
  have H := Lib.hid h
  clear h
  by_cases hroom : os.length < n
  · obtain ⟨z, hz⟩ : ∃ z, os ++ [x] = z := ⟨_, rfl⟩
    have e : qput n false x us os = (true, us, z) := by unfold qput; simp [hroom, hz]
    have HZ := Lib.hid hz
    clear hz
    have HE := Lib.hid e
    have d1 : decide ((n : Int) ≤ (os.length : Int)) = false := decide_eq_false (by omega)
    have d2 : decide (n ≤ os.length) = false := decide_eq_false (by omega)
    have HL : Hid ((os.length + 1) * 8 ≤ 140737488355328) := Lib.hid (by omega)
    clear e
    go_enter Try.func16, Try.ntmps16
    go_wp2_with fail
    go_quiet (fail)
    (try simp only [Act.put, List.setIfInBounds_toArray, List.set_cons_zero, List.set_cons_succ])
    obtain ⟨W, hW⟩ : ∃ W, W = World.drewN w nq := ⟨_, rfl⟩
    rw [← hW]
    have HD : Hid (IsRf base W r n (.slice A5 us.length c5) (.slice A6 os.length c6) us os) := Lib.hid (by rw [hW]; exact H.out.drewN _)
    have HBW : Hid (Below base w W) := Lib.hid (by rw [hW]; exact pw_below_drewN (Below.refl _ _) _)
    have HWW := Lib.hid hW
    have hbW : base ≤ W.heap.size := by rw [hW]; exact hbw
    have h1 : W.cell? ⟨r, 2, none⟩ = some (.slice A6 os.length c6) := (HD.out.cell 2).trans rfl
    clear hW h0 h2 H
    go_wp2_with (at_builtin; refine Kd.R_append (Kd.int .i64) (w0 := w) base rfl (.tmp 42) (.tmp 44) 37 3 (.int .i64 0) 8 rfl Try.underlying37 info3 rfl (by decide) (by decide) _ os x [.int .i64 x] (fun k => True ∧ some k ≠ (Value.slice A5 us.length c5).ownBlock) (fun _ => False) rfl rfl rfl (fun _ h => h.elim) (fun k hk => ⟨trivial, Kd.fresh_ok HD.out.ru k hk⟩) HD.out.ro HBW.out hbW HL.out ?_; intro v1 w4 hR hB4 hG hA; rw [HZ.out] at hR; obtain ⟨A1, c1, rfl⟩ := Kd.R_slice hR; have HR4 := Lib.hid hR; have HY4 := Lib.hid (Kd.R_after HD.out.ru hG hA); have hblk := (hG.block r (blk_lt HD.out.blk) (fun he => by obtain ⟨cells, hc⟩ := Kd.R_typed HD.out.ro r he.symm; rw [HD.out.blk] at hc; injection hc with hc; injection hc with _ ht; exact absurd ht (by decide))).trans HD.out.blk; have hc1 := blk_cell hblk 2; have hf1 := blk_frozen hblk 2; have HBK := Lib.hid hblk; have HB4 := Lib.hid hB4; have HG := Lib.hid hG; clear hR hB4 hA hblk hG)
    go_ret
    rw [HE.out]
    refine ⟨rfl, _, .slice A1 z.length c1, ⟨blk_put HBK.out 2 (.slice A1 z.length c1) rfl, ?_, ?_⟩, rf_grown HWW.out HD.out.ro HG.out 2 _, HB4.out.setCell hbr _⟩
    · exact Kd.R_set HY4.out HBK.out ne3 2 _
    · exact Kd.R_set HR4.out HBK.out ne3 2 _
  · have e : qput n false x us os = (false, us, os) := by unfold qput; simp [hroom]
    have HE := Lib.hid e
    have d1 : decide ((n : Int) ≤ (os.length : Int)) = true := decide_eq_true (by omega)
    have d2 : decide (n ≤ os.length) = true := decide_eq_true (by omega)
    clear e
    go_enter Try.func16, Try.ntmps16
    go_wp2_with fail
    go_quiet (fail)
    go_wp2_with fail
    go_ret
    rw [HE.out]
    exact ⟨rfl, _, _, H.out.drewN _, rf_drewN w r _, pw_below_drewN (Below.refl _ _) _⟩
end Go.Proofs.Ytinipcfnmngccaa
