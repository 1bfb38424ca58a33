/- The walk of the law CrcTells, whose last statement leaves its order open. -/
import Derived.Test.YtjbodeoghnjenaaB1
import Derived.Test.YtjbodeoghnjenaaReg
namespace Go.Proofs.Ytjbodeoghnjenaa
set_option linter.unusedVariables false
set_option linter.unusedSimpArgs false
open Go.RowKit Go.Proofs.YtjbodeoghnjenaaW.PrintWords Go.Proofs.YtjbodeoghnjenaaW.PrintLast
theorem seal_calls (A : Option Addr) (c : Nat) (l : List Int) (w : World) (hn : l.length ≤ 1000000) (hb : Bytes l) (hr : Kd.C (Kd.int .u8) w A l.length l) (hc : l.length ≤ c) (m : List Int) (hm : sealOf l = m) :
    Calls Try.prog 14 #[.slice A l.length c] w fun e w' => ∃ B d, e = .returned (.slice B m.length d) ∧ m.length ≤ d ∧ Kd.C (Kd.int .u8) w' B m.length m ∧ Below w.heap.size w w' := by
  subst hm
  refine (seal_any A c l w hn hb hr hc).mono ?_
  rintro e w' ⟨v, rfl, ho, hb⟩
  obtain ⟨B, d, e⟩ := Kd.R_slice ho
  have e' : v = .slice B (sealOf l).length d := e
  subst e'
  obtain ⟨_, h2, h3⟩ := Kd.R_reads' ho
  exact ⟨B, d, rfl, h2, h3, hb⟩
theorem open_calls (A : Option Addr) (c : Nat) (l m : List Int) (b : Bool) (w : World) (hn : l.length ≤ 1000000) (hb : Bytes l) (hr : Kd.C (Kd.int .u8) w A l.length l) (hc : l.length ≤ c)
    (hm : (if 2 ≤ l.length ∧ sum l = 0 then l.take (l.length - 2) else []) = m) (hbb : decide (2 ≤ l.length ∧ sum l = 0) = b) :
    Calls Try.prog 10 #[.slice A l.length c] w fun e w' => ∃ B d, e = .returned (.tuple #[.slice B m.length d, .bool b]) ∧ m.length ≤ d ∧ Kd.C (Kd.int .u8) w' B m.length m ∧ Below w.heap.size w w' := by
  subst hm hbb
  refine (open_any A c l w hn hb hr hc).mono ?_
  rintro e w' ⟨v, rfl, ho, hb⟩
  obtain ⟨B, d, rfl⟩ := Kd.R_slice ho
  obtain ⟨_, h2, h3⟩ := Kd.R_reads' ho
  exact ⟨B, d, rfl, h2, h3, hb⟩
theorem ropen_calls (A : Option Addr) (c : Nat) (l m : List Int) (b : Bool) (w : World) (hn : l.length ≤ 1000000) (hb : Bytes l) (hr : Kd.C (Kd.int .u8) w A l.length l) (hc : l.length ≤ c)
    (hm : (if 2 ≤ l.length ∧ sum l = 0 then l.take (l.length - 2) else []) = m) (hbb : decide (2 ≤ l.length ∧ sum l = 0) = b) :
    Calls Try.prog 11 #[.slice A l.length c] w fun e w' => ∃ B d, e = .returned (.tuple #[.slice B m.length d, .bool b]) ∧ m.length ≤ d ∧ Kd.C (Kd.int .u8) w' B m.length m ∧ Below w.heap.size w w' := by
  subst hm hbb
  refine (ropen_any A c l w hn hb hr hc).mono ?_
  rintro e w' ⟨v, rfl, ho, hb⟩
  obtain ⟨B, d, rfl⟩ := Kd.R_slice ho
  obtain ⟨_, h2, h3⟩ := Kd.R_reads' ho
  exact ⟨B, d, rfl, h2, h3, hb⟩
theorem str_of {w w' : World} {A : Option Addr} {c : Nat} {l : List Int} (h : Kd.C (Kd.int .u8) w A l.length l) (hb : Below w.heap.size w w') : (convert 22 9 (.slice A l.length c)).run Try.prog w' = .ok (.string (strOfNums l)) w' :=
  Kd.C_string (P := Try.prog) Try.underlying22 Try.underlying5 Try.underlying9 (Kd.C_below h hb)
set_option maxRecDepth 100000 in
set_option maxHeartbeats 4000000 in
theorem tells_any (A : Option Addr) (c : Nat) (l : List Int) (w : World) (hb : Bytes l) (hr : Kd.C (Kd.int .u8) w A l.length l) (hc : l.length ≤ c) :
    Calls Try.prog 3 #[.slice A l.length c] w fun e w' => e = .returned (.bool true) ∧ Below w.heap.size w w' := by
  have HR := Lib.hid hr
  have HBY := Lib.hid hb
  clear hr hb
  by_cases hn : (20000 : Int) < l.length
  · clear HR HBY
    go_enter Try.func3, Try.ntmps3
    go_wp2_with fail
    refine (head_any _).mono ?_
    rintro e w1 ⟨rfl, hb⟩
    go_wp2_with fail
    go_ret
    exact ⟨rfl, hb⟩
  · have hlM : l.length ≤ 1000000 := by omega
    obtain ⟨y, hy⟩ : ∃ y, (if 2 ≤ l.length ∧ sum l = 0 then l.take (l.length - 2) else []) = y := ⟨_, rfl⟩
    obtain ⟨b, hbd⟩ : ∃ b, decide (2 ≤ l.length ∧ sum l = 0) = b := ⟨_, rfl⟩
    obtain ⟨m, hm⟩ : ∃ m, sealOf l = m := ⟨_, rfl⟩
    obtain ⟨s, hs⟩ : ∃ s, sum l = s := ⟨_, rfl⟩
    have Y1 := Lib.hid hy
    have Y2 := Lib.hid hbd
    have HM := Lib.hid hm
    have HS := Lib.hid hs
    clear hy hbd hm hs
    go_enter Try.func3, Try.ntmps3
    go_wp2_with fail
    refine (head_any _).mono ?_
    rintro e w1 ⟨rfl, hb1⟩
    have HB1 := Lib.hid hb1
    have HR1 := Lib.hid (Kd.C_below HR.out hb1)
    clear hb1 HR
    go_wp2_with fail
    refine (open_calls A c l y b w1 hlM HBY.out HR1.out hc Y1.out Y2.out).mono ?_
    rintro e w2 ⟨B, d, rfl, hd, hbc, hb2⟩
    have HB2 := Lib.hid (below_step HB1.out hb2)
    have HR2 := Lib.hid (Kd.C_below HR1.out hb2)
    have HBC := Lib.hid hbc
    clear hb2 hbc HR1 HB1
    go_wp2_with fail
    refine (ropen_calls A c l y b w2 hlM HBY.out HR2.out hc Y1.out Y2.out).mono ?_
    rintro e w4 ⟨C, ce, rfl, he, hyc, hb4⟩
    have HB4 := Lib.hid (below_step HB2.out hb4)
    have HX : Hid (∀ w', Below w4.heap.size w4 w' → (convert 22 9 (.slice B y.length d)).run Try.prog w' = .ok (.string (strOfNums y)) w') := Lib.hid (fun w' h => str_of (Kd.C_below HBC.out hb4) h)
    have HY : Hid (∀ w', Below w4.heap.size w4 w' → (convert 22 9 (.slice C y.length ce)).run Try.prog w' = .ok (.string (strOfNums y)) w') := Lib.hid (fun w' h => str_of hyc h)
    have HR4 := Lib.hid (Kd.C_below HR2.out hb4)
    have HSUM : Hid (∀ w', Below w4.heap.size w4 w' → Calls Try.prog 12 #[.slice A l.length c] w' fun e w'' => e = .returned (.int .u16 (s : Nat)) ∧ Below w'.heap.size w' w'') := Lib.hid (fun w' h => by rw [← HS.out]; exact sum_any A c l w' hlM HBY.out (Kd.C_below HR4.out h))
    have HRSUM : Hid (∀ w', Below w4.heap.size w4 w' → Calls Try.prog 13 #[.slice A l.length c] w' fun e w'' => e = .returned (.int .u16 (s : Nat)) ∧ Below w'.heap.size w' w'') := Lib.hid (fun w' h => by rw [← HS.out]; exact rsum_any A c l w' hlM HBY.out (Kd.C_below HR4.out h) hc)
    have HSEAL : Hid (∀ w', Below w4.heap.size w4 w' → Calls Try.prog 14 #[.slice A l.length c] w' fun e w'' => ∃ F f, e = .returned (.slice F m.length f) ∧ m.length ≤ f ∧ Kd.C (Kd.int .u8) w'' F m.length m ∧ Below w'.heap.size w' w'') := Lib.hid (fun w' h => seal_calls A c l w' hlM HBY.out (Kd.C_below HR4.out h) hc m HM.out)
    have HRSEAL : Hid (∀ w', Below w4.heap.size w4 w' → Calls Try.prog 15 #[.slice A l.length c] w' fun e w'' => ∃ F f, e = .returned (.slice F m.length f) ∧ m.length ≤ f ∧ Kd.C (Kd.int .u8) w'' F m.length m ∧ Below w'.heap.size w' w'') := Lib.hid (fun w' h => rseal_calls A c l w' hlM HBY.out (Kd.C_below HR4.out h) hc m HM.out)
    clear hb4 hyc HBC HR2 HB2 HR4
    have hq1 : ((s : Int) == (s : Int)) = true := by simp
    have hq2 : ((strOfNums m).toList == (strOfNums m).toList) = true := by simp
    have hq3 : ((strOfNums y).toList == (strOfNums y).toList) = true := by simp
    have hq4 : (b == b) = true := by simp
    go_wp2_with fail
    refine start_ (n := 30) (S := fun w' => (convert 22 9 (.slice B y.length d)).run Try.prog w' = .ok (.string (strOfNums y)) w' ∧ (convert 22 9 (.slice C y.length ce)).run Try.prog w' = .ok (.string (strOfNums y)) w') (ds := []) #[false, false, false, false, false, false, false, false, false, false, false, false, false, false, false, false, false, false, false, false, false, false, false, false, false, false, false, false, false, false] (by kernel_rfl) rfl rfl ⟨HX.out _ (below_drew1 (Below.refl _ _)), HY.out _ (below_drew1 (Below.refl _ _))⟩ (fun hHeld => ?_)
    refine pure_ (i := 0) (N := some 23) (v := ?_) (a' := ?_) #[true, false, false, false, false, false, false, false, false, false, false, false, false, false, false, false, false, false, false, false, false, false, false, false, false, false, false, false, false, false] rfl rfl (by kernel_rfl) (fun _ _ _ h => h) (Or.inl ⟨by rfl, ?_⟩) ?_ ?_
    rotate_left
    · intro w'
      go_simp
      with_reducible rfl
    rotate_left
    · simp only [Act.put, List.setIfInBounds_toArray, List.set_cons_zero, List.set_cons_succ, i64_w, i32_w]
      rfl
    refine pure_ (i := 1) (N := some 24) (v := ?_) (a' := ?_) #[true, true, false, false, false, false, false, false, false, false, false, false, false, false, false, false, false, false, false, false, false, false, false, false, false, false, false, false, false, false] rfl rfl (by kernel_rfl) (fun _ _ _ h => h) (Or.inl ⟨by rfl, ?_⟩) ?_ ?_
    rotate_left
    · intro w'
      go_simp
      with_reducible rfl
    rotate_left
    · simp only [Act.put, List.setIfInBounds_toArray, List.set_cons_zero, List.set_cons_succ, i64_w, i32_w]
      rfl
    refine pure_ (i := 2) (N := some 25) (v := ?_) (a' := ?_) #[true, true, true, false, false, false, false, false, false, false, false, false, false, false, false, false, false, false, false, false, false, false, false, false, false, false, false, false, false, false] rfl rfl (by kernel_rfl) (fun _ _ _ h => h) (Or.inl ⟨by rfl, ?_⟩) ?_ ?_
    rotate_left
    · intro w'
      go_simp
      with_reducible rfl
    rotate_left
    · simp only [Act.put, List.setIfInBounds_toArray, List.set_cons_zero, List.set_cons_succ, i64_w, i32_w]
      rfl
    refine pure_ (i := 4) (N := some 27) (v := ?_) (a' := ?_) #[true, true, true, false, true, false, false, false, false, false, false, false, false, false, false, false, false, false, false, false, false, false, false, false, false, false, false, false, false, false] rfl rfl (by kernel_rfl) (fun _ _ _ h => h) (Or.inl ⟨by rfl, ?_⟩) ?_ ?_
    rotate_left
    · intro w'
      go_simp
      with_reducible rfl
    rotate_left
    · simp only [Act.put, List.setIfInBounds_toArray, List.set_cons_zero, List.set_cons_succ, i64_w, i32_w]
      rfl
    refine one_ (i := 3) (N := some 26) #[true, true, true, true, true, false, false, false, false, false, false, false, false, false, false, false, false, false, false, false, false, false, false, false, false, false, false, false, false, false] rfl rfl (by kernel_rfl) (by decide) (fun K hK => ?_)
    refine goes_ Try.func12 (by kernel_rfl) rfl #[.slice A l.length c] (by rfl) rfl rfl (by simp only [List.map_toArray, List.map_cons, List.map_nil]; rfl) ?_
    with_reducible refine (HSUM.out _ (below_drew1 (Below.refl _ _))).mono ?_
    rintro e w5 ⟨rfl, hb5⟩
    refine ⟨_, rfl, ?_⟩
    have hB5 : Below w4.heap.size w4 w5 := below_step (below_drew1 (Below.refl _ _)) hb5
    refine hK.out _ _ ⟨HX.out _ hB5, HY.out _ hB5⟩ (fun hHeld => ?_)
    clear hK K
    refine norm_ (a' := ?_) ?_ ?_
    rotate_left
    · show Act.put _ (some 26) _ = _
      simp only [Act.put, List.setIfInBounds_toArray, List.set_cons_zero, List.set_cons_succ, i64_w, i32_w]
      rfl
    refine one_ (i := 5) (N := some 28) #[true, true, true, true, true, true, false, false, false, false, false, false, false, false, false, false, false, false, false, false, false, false, false, false, false, false, false, false, false, false] rfl rfl (by kernel_rfl) (by decide) (fun K hK => ?_)
    refine goes_ Try.func13 (by kernel_rfl) rfl #[.slice A l.length c] (by rfl) rfl rfl (by simp only [List.map_toArray, List.map_cons, List.map_nil]; rfl) ?_
    with_reducible refine (HRSUM.out _ hB5).mono ?_
    rintro e w6 ⟨rfl, hb6⟩
    refine ⟨_, rfl, ?_⟩
    have hB6 : Below w4.heap.size w4 w6 := below_step hB5 hb6
    refine hK.out _ _ ⟨HX.out _ hB6, HY.out _ hB6⟩ (fun hHeld => ?_)
    clear hK K
    refine norm_ (a' := ?_) ?_ ?_
    rotate_left
    · show Act.put _ (some 28) _ = _
      simp only [Act.put, List.setIfInBounds_toArray, List.set_cons_zero, List.set_cons_succ, i64_w, i32_w]
      rfl
    refine pure_ (i := 6) (N := some 29) (v := ?_) (a' := ?_) #[true, true, true, true, true, true, true, false, false, false, false, false, false, false, false, false, false, false, false, false, false, false, false, false, false, false, false, false, false, false] rfl rfl (by kernel_rfl) (fun _ _ _ h => h) (Or.inl ⟨by rfl, ?_⟩) ?_ ?_
    rotate_left
    · intro w'
      go_simp
      with_reducible rfl
    rotate_left
    · simp only [Act.put, List.setIfInBounds_toArray, List.set_cons_zero, List.set_cons_succ, i64_w, i32_w]
      rfl
    refine pure_ (i := 7) (N := some 30) (v := ?_) (a' := ?_) #[true, true, true, true, true, true, true, true, false, false, false, false, false, false, false, false, false, false, false, false, false, false, false, false, false, false, false, false, false, false] rfl rfl (by kernel_rfl) (fun _ _ _ h => h) (Or.inl ⟨by rfl, ?_⟩) ?_ ?_
    rotate_left
    · intro w'
      go_simp
      with_reducible rfl
    rotate_left
    · simp only [Act.put, List.setIfInBounds_toArray, List.set_cons_zero, List.set_cons_succ, i64_w, i32_w]
      rfl
    refine pure_ (i := 8) (N := some 31) (v := ?_) (a' := ?_) #[true, true, true, true, true, true, true, true, true, false, false, false, false, false, false, false, false, false, false, false, false, false, false, false, false, false, false, false, false, false] rfl rfl (by kernel_rfl) (fun _ _ _ h => h) (Or.inl ⟨by rfl, ?_⟩) ?_ ?_
    rotate_left
    · intro w'
      go_simp
      with_reducible rfl
    rotate_left
    · simp only [Act.put, List.setIfInBounds_toArray, List.set_cons_zero, List.set_cons_succ, i64_w, i32_w]
      rfl
    refine pure_ (i := 9) (N := some 32) (v := ?_) (a' := ?_) #[true, true, true, true, true, true, true, true, true, true, false, false, false, false, false, false, false, false, false, false, false, false, false, false, false, false, false, false, false, false] rfl rfl (by kernel_rfl) (fun _ _ _ h => h) (Or.inl ⟨by rfl, ?_⟩) ?_ ?_
    rotate_left
    · intro w'
      go_simp
      with_reducible rfl
    rotate_left
    · simp only [Act.put, List.setIfInBounds_toArray, List.set_cons_zero, List.set_cons_succ, i64_w, i32_w]
      rfl
    refine pure_ (i := 12) (N := some 35) (v := ?_) (a' := ?_) #[true, true, true, true, true, true, true, true, true, true, false, false, true, false, false, false, false, false, false, false, false, false, false, false, false, false, false, false, false, false] rfl rfl (by kernel_rfl) (fun _ _ _ h => h) (Or.inl ⟨by rfl, ?_⟩) ?_ ?_
    rotate_left
    · intro w'
      go_simp
      with_reducible rfl
    rotate_left
    · simp only [Act.put, List.setIfInBounds_toArray, List.set_cons_zero, List.set_cons_succ, i64_w, i32_w]
      rfl
    refine one_ (i := 10) (N := some 33) #[true, true, true, true, true, true, true, true, true, true, true, false, true, false, false, false, false, false, false, false, false, false, false, false, false, false, false, false, false, false] rfl rfl (by kernel_rfl) (by decide) (fun K hK => ?_)
    refine goes_ Try.func14 (by kernel_rfl) rfl #[.slice A l.length c] (by rfl) rfl rfl (by simp only [List.map_toArray, List.map_cons, List.map_nil]; rfl) ?_
    with_reducible refine (HSEAL.out _ hB6).mono ?_
    rintro e w7 ⟨F, f, rfl, hf, hfc, hb7⟩
    refine ⟨_, rfl, ?_⟩
    have hB7 : Below w4.heap.size w4 w7 := below_step hB6 hb7
    refine hK.out _ _ ⟨HX.out _ hB7, HY.out _ hB7⟩ (fun hHeld => ?_)
    clear hK K
    refine more_ (S' := fun w' => (convert 22 9 (.slice B y.length d)).run Try.prog w' = .ok (.string (strOfNums y)) w' ∧ (convert 22 9 (.slice C y.length ce)).run Try.prog w' = .ok (.string (strOfNums y)) w' ∧ (convert 22 9 (.slice F m.length f)).run Try.prog w' = .ok (.string (strOfNums m)) w') (fun w' h => ⟨h.1, h.2.1⟩) ⟨HX.out _ hB7, HY.out _ hB7, str_of hfc (Below.refl _ _)⟩ (fun hHeld => ?_)
    refine norm_ (a' := ?_) ?_ ?_
    rotate_left
    · show Act.put _ (some 33) _ = _
      simp only [Act.put, List.setIfInBounds_toArray, List.set_cons_zero, List.set_cons_succ, i64_w, i32_w]
      rfl
    refine take_ (i := 11) (N := some 34) (v := ?_) (a' := ?_) #[true, true, true, true, true, true, true, true, true, true, true, true, true, false, false, false, false, false, false, false, false, false, false, false, false, false, false, false, false, false] rfl rfl (by kernel_rfl) (fun _ _ _ h => h) (Or.inl ⟨by rfl, ?_⟩) hHeld ?_ ?_
    rotate_left
    · rintro w' ⟨s0, s1, s2⟩
      go_simp
      with_reducible rfl
    rotate_left
    · simp only [Act.put, List.setIfInBounds_toArray, List.set_cons_zero, List.set_cons_succ, i64_w, i32_w]
      rfl
    refine one_ (i := 13) (N := some 36) #[true, true, true, true, true, true, true, true, true, true, true, true, true, true, false, false, false, false, false, false, false, false, false, false, false, false, false, false, false, false] rfl rfl (by kernel_rfl) (by decide) (fun K hK => ?_)
    refine goes_ Try.func15 (by kernel_rfl) rfl #[.slice A l.length c] (by rfl) rfl rfl (by simp only [List.map_toArray, List.map_cons, List.map_nil]; rfl) ?_
    with_reducible refine (HRSEAL.out _ hB7).mono ?_
    rintro e w8 ⟨G, g, rfl, hg, hgc, hb8⟩
    refine ⟨_, rfl, ?_⟩
    have hB8 : Below w4.heap.size w4 w8 := below_step hB7 hb8
    refine hK.out _ _ ⟨HX.out _ hB8, HY.out _ hB8, str_of hfc hb8⟩ (fun hHeld => ?_)
    clear hK K
    refine more_ (S' := fun w' => (convert 22 9 (.slice B y.length d)).run Try.prog w' = .ok (.string (strOfNums y)) w' ∧ (convert 22 9 (.slice C y.length ce)).run Try.prog w' = .ok (.string (strOfNums y)) w' ∧ (convert 22 9 (.slice F m.length f)).run Try.prog w' = .ok (.string (strOfNums m)) w' ∧ (convert 22 9 (.slice G m.length g)).run Try.prog w' = .ok (.string (strOfNums m)) w') (fun w' h => ⟨h.1, h.2.1, h.2.2.1⟩) ⟨HX.out _ hB8, HY.out _ hB8, str_of hfc hb8, str_of hgc (Below.refl _ _)⟩ (fun hHeld => ?_)
    refine norm_ (a' := ?_) ?_ ?_
    rotate_left
    · show Act.put _ (some 36) _ = _
      simp only [Act.put, List.setIfInBounds_toArray, List.set_cons_zero, List.set_cons_succ, i64_w, i32_w]
      rfl
    refine take_ (i := 14) (N := some 37) (v := ?_) (a' := ?_) #[true, true, true, true, true, true, true, true, true, true, true, true, true, true, true, false, false, false, false, false, false, false, false, false, false, false, false, false, false, false] rfl rfl (by kernel_rfl) (fun _ _ _ h => h) (Or.inl ⟨by rfl, ?_⟩) hHeld ?_ ?_
    rotate_left
    · rintro w' ⟨s0, s1, s2, s3⟩
      go_simp
      with_reducible rfl
    rotate_left
    · simp only [Act.put, List.setIfInBounds_toArray, List.set_cons_zero, List.set_cons_succ, i64_w, i32_w]
      rfl
    refine pure_ (i := 15) (N := some 38) (v := ?_) (a' := ?_) #[true, true, true, true, true, true, true, true, true, true, true, true, true, true, true, true, false, false, false, false, false, false, false, false, false, false, false, false, false, false] rfl rfl (by kernel_rfl) (fun _ _ _ h => h) (Or.inl ⟨by rfl, ?_⟩) ?_ ?_
    rotate_left
    · intro w'
      go_simp
      with_reducible rfl
    rotate_left
    · simp only [Act.put, List.setIfInBounds_toArray, List.set_cons_zero, List.set_cons_succ, i64_w, i32_w]
      rfl
    refine pure_ (i := 16) (N := some 39) (v := ?_) (a' := ?_) #[true, true, true, true, true, true, true, true, true, true, true, true, true, true, true, true, true, false, false, false, false, false, false, false, false, false, false, false, false, false] rfl rfl (by kernel_rfl) (fun _ _ _ h => h) (Or.inl ⟨by rfl, ?_⟩) ?_ ?_
    rotate_left
    · intro w'
      go_simp
      with_reducible rfl
    rotate_left
    · simp only [Act.put, List.setIfInBounds_toArray, List.set_cons_zero, List.set_cons_succ, i64_w, i32_w]
      rfl
    refine pure_ (i := 17) (N := some 40) (v := ?_) (a' := ?_) #[true, true, true, true, true, true, true, true, true, true, true, true, true, true, true, true, true, true, false, false, false, false, false, false, false, false, false, false, false, false] rfl rfl (by kernel_rfl) (fun _ _ _ h => h) (Or.inl ⟨by rfl, ?_⟩) ?_ ?_
    rotate_left
    · intro w'
      go_simp
      with_reducible rfl
    rotate_left
    · simp only [Act.put, List.setIfInBounds_toArray, List.set_cons_zero, List.set_cons_succ, i64_w, i32_w]
      rfl
    refine pure_ (i := 18) (N := some 41) (v := ?_) (a' := ?_) #[true, true, true, true, true, true, true, true, true, true, true, true, true, true, true, true, true, true, true, false, false, false, false, false, false, false, false, false, false, false] rfl rfl (by kernel_rfl) (fun _ _ _ h => h) (Or.inl ⟨by rfl, ?_⟩) ?_ ?_
    rotate_left
    · intro w'
      go_simp
      with_reducible rfl
    rotate_left
    · simp only [Act.put, List.setIfInBounds_toArray, List.set_cons_zero, List.set_cons_succ, i64_w, i32_w]
      rfl
    refine pure_ (i := 20) (N := some 43) (v := ?_) (a' := ?_) #[true, true, true, true, true, true, true, true, true, true, true, true, true, true, true, true, true, true, true, false, true, false, false, false, false, false, false, false, false, false] rfl rfl (by kernel_rfl) (fun _ _ _ h => h) (Or.inl ⟨by rfl, ?_⟩) ?_ ?_
    rotate_left
    · intro w'
      go_simp
      with_reducible rfl
    rotate_left
    · simp only [Act.put, List.setIfInBounds_toArray, List.set_cons_zero, List.set_cons_succ, i64_w, i32_w]
      rfl
    refine take_ (i := 19) (N := some 42) (v := ?_) (a' := ?_) #[true, true, true, true, true, true, true, true, true, true, true, true, true, true, true, true, true, true, true, true, true, false, false, false, false, false, false, false, false, false] rfl rfl (by kernel_rfl) (fun _ _ _ h => h) (Or.inl ⟨by rfl, ?_⟩) hHeld ?_ ?_
    rotate_left
    · rintro w' ⟨s0, s1, s2, s3⟩
      go_simp
      with_reducible rfl
    rotate_left
    · simp only [Act.put, List.setIfInBounds_toArray, List.set_cons_zero, List.set_cons_succ, i64_w, i32_w]
      rfl
    refine take_ (i := 21) (N := some 44) (v := ?_) (a' := ?_) #[true, true, true, true, true, true, true, true, true, true, true, true, true, true, true, true, true, true, true, true, true, true, false, false, false, false, false, false, false, false] rfl rfl (by kernel_rfl) (fun _ _ _ h => h) (Or.inl ⟨by rfl, ?_⟩) hHeld ?_ ?_
    rotate_left
    · rintro w' ⟨s0, s1, s2, s3⟩
      go_simp
      with_reducible rfl
    rotate_left
    · simp only [Act.put, List.setIfInBounds_toArray, List.set_cons_zero, List.set_cons_succ, i64_w, i32_w]
      rfl
    refine pure_ (i := 22) (N := some 45) (v := ?_) (a' := ?_) #[true, true, true, true, true, true, true, true, true, true, true, true, true, true, true, true, true, true, true, true, true, true, true, false, false, false, false, false, false, false] rfl rfl (by kernel_rfl) (fun _ _ _ h => h) (Or.inl ⟨by rfl, ?_⟩) ?_ ?_
    rotate_left
    · intro w'
      go_simp
      with_reducible rfl
    rotate_left
    · simp only [Act.put, List.setIfInBounds_toArray, List.set_cons_zero, List.set_cons_succ, i64_w, i32_w]
      rfl
    refine pure_ (i := 23) (N := some 46) (v := ?_) (a' := ?_) #[true, true, true, true, true, true, true, true, true, true, true, true, true, true, true, true, true, true, true, true, true, true, true, true, false, false, false, false, false, false] rfl rfl (by kernel_rfl) (fun _ _ _ h => h) (Or.inl ⟨by rfl, ?_⟩) ?_ ?_
    rotate_left
    · intro w'
      go_simp
      with_reducible rfl
    rotate_left
    · simp only [Act.put, List.setIfInBounds_toArray, List.set_cons_zero, List.set_cons_succ, i64_w, i32_w]
      rfl
    refine pure_ (i := 24) (N := some 47) (v := ?_) (a' := ?_) #[true, true, true, true, true, true, true, true, true, true, true, true, true, true, true, true, true, true, true, true, true, true, true, true, true, false, false, false, false, false] rfl rfl (by kernel_rfl) (fun _ _ _ h => h) (Or.inl ⟨by rfl, ?_⟩) ?_ ?_
    rotate_left
    · intro w'
      go_simp
      with_reducible rfl
    rotate_left
    · simp only [Act.put, List.setIfInBounds_toArray, List.set_cons_zero, List.set_cons_succ, i64_w, i32_w]
      rfl
    refine pure_ (i := 25) (N := some 48) (v := ?_) (a' := ?_) #[true, true, true, true, true, true, true, true, true, true, true, true, true, true, true, true, true, true, true, true, true, true, true, true, true, true, false, false, false, false] rfl rfl (by kernel_rfl) (fun _ _ _ h => h) (Or.inl ⟨by rfl, ?_⟩) ?_ ?_
    rotate_left
    · intro w'
      go_simp
      with_reducible rfl
    rotate_left
    · simp only [Act.put, List.setIfInBounds_toArray, List.set_cons_zero, List.set_cons_succ, i64_w, i32_w]
      rfl
    refine pure_ (i := 26) (N := some 49) (v := ?_) (a' := ?_) #[true, true, true, true, true, true, true, true, true, true, true, true, true, true, true, true, true, true, true, true, true, true, true, true, true, true, true, false, false, false] rfl rfl (by kernel_rfl) (fun _ _ _ h => h) (Or.inl ⟨by rfl, ?_⟩) ?_ ?_
    rotate_left
    · intro w'
      go_simp
      with_reducible rfl
    rotate_left
    · simp only [Act.put, List.setIfInBounds_toArray, List.set_cons_zero, List.set_cons_succ, i64_w, i32_w]
      rfl
    refine pure_ (i := 27) (N := some 50) (v := ?_) (a' := ?_) #[true, true, true, true, true, true, true, true, true, true, true, true, true, true, true, true, true, true, true, true, true, true, true, true, true, true, true, true, false, false] rfl rfl (by kernel_rfl) (fun _ _ _ h => h) (Or.inl ⟨by rfl, ?_⟩) ?_ ?_
    rotate_left
    · intro w'
      go_simp
      with_reducible rfl
    rotate_left
    · simp only [Act.put, List.setIfInBounds_toArray, List.set_cons_zero, List.set_cons_succ, i64_w, i32_w]
      rfl
    refine pure_ (i := 28) (N := some 51) (v := ?_) (a' := ?_) #[true, true, true, true, true, true, true, true, true, true, true, true, true, true, true, true, true, true, true, true, true, true, true, true, true, true, true, true, true, false] rfl rfl (by kernel_rfl) (fun _ _ _ h => h) (Or.inl ⟨by rfl, ?_⟩) ?_ ?_
    rotate_left
    · intro w'
      go_simp
      with_reducible rfl
    rotate_left
    · simp only [Act.put, List.setIfInBounds_toArray, List.set_cons_zero, List.set_cons_succ, i64_w, i32_w]
      rfl
    refine pure_ (i := 29) (N := some 2) (v := ?_) (a' := ?_) #[true, true, true, true, true, true, true, true, true, true, true, true, true, true, true, true, true, true, true, true, true, true, true, true, true, true, true, true, true, true] rfl rfl (by kernel_rfl) (fun _ _ _ h => h) (Or.inl ⟨by rfl, ?_⟩) ?_ ?_
    rotate_left
    · intro w'
      go_simp
      with_reducible rfl
    rotate_left
    · simp only [Act.put, List.setIfInBounds_toArray, List.set_cons_zero, List.set_cons_succ, i64_w, i32_w]
      rfl
    refine done_ (by kernel_rfl) ?_

    go_wp2_with fail
    go_ret
    exact ⟨rfl, below_then HB4.out HB4.out.size hB8⟩
theorem tells_walk (a0 : Option Addr) (len0 cap0 : Nat) (z0 : List Int) (w : World) (w0 : (a0 = none ∧ len0 = 0 ∧ cap0 = 0 ∧ z0 = []) ∨ ∃ x, a0 = some x ∧ len0 ≤ cap0 ∧ cap0 ≤ maxLen ∧ z0.length = cap0 ∧ (∀ i, i < z0.length → w.cell? (x.add i) = some (.int .u8 (z0.getD i 0))) ∧ ∀ n ∈ z0, (Lit.int .u8 n).wf = true) (y0 : len0 * 1 ≤ 140737488351232) :
    Calls Try.prog 3 #[.slice a0 len0 cap0] w fun e w' => e = .returned (.bool true) ∧ Below w.heap.size w w' := by
  obtain ⟨l0, rfl, hr0, hm0, hw0, hc0⟩ := ReadsInt.ofRowC w0
  exact tells_any a0 cap0 l0 w (bytes_wf hw0) (Kd.C_of_reads (d := (0 : Int)) (h1 := fun _ => rfl) hr0) hc0
end Go.Proofs.Ytjbodeoghnjenaa
