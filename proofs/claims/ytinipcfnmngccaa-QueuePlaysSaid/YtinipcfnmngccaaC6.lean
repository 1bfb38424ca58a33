/- The law QueueAhead, walked. -/
import Derived.Test.YtinipcfnmngccaaC5
import Derived.Test.YtinipcfnmngccaaWMore
namespace Go.Proofs.Ytinipcfnmngccaa
open Go.Conc Go.RowKit Go.Proofs.YtinipcfnmngccaaW.PrintWords Go.Proofs.YtinipcfnmngccaaW.PrintLast Go.Proofs.YtinipcfnmngccaaW.PrintMore
set_option linter.unusedVariables false
set_option linter.unusedSimpArgs false
theorem info3 : (Try.prog.info? 3).map (fun i => (i.zero, i.size, i.bytes)) = some (some (.int .i64 0), 1, 8) := by kernel_rfl
section
variable {T : TypeId} {α β : Type} {enc : α → Value} {d : Kd β} {e base : Nat} {ok : Nat → Prop} {w w' : World} {q b1 b2 n : Nat} {us os : List α} {v : Value} {xs : List β}
/-- A row of the call's own stands while a queue is used. -/
theorem R_only (h : d.R e w base ok v xs) (hq : IsQ T enc w q b1 b2 n us os) (ho : Only w w' b1 b2) : d.R e w' base ok v xs := by
  obtain ⟨s1, r1, h1⟩ := hq.c1
  obtain ⟨s2, r2, h2⟩ := hq.c2
  refine Kd.R_mono (Kd.R_step (Kd.R_bound h) (fun k hk hlt => ho.block k ?_ ?_)) (fun k hk => hk.1)
  · rintro rfl
    obtain ⟨_, _, _, _, _, cells, hc⟩ := hk
    rw [h1] at hc; cases hc
  · rintro rfl
    obtain ⟨_, _, _, _, _, cells, hc⟩ := hk
    rw [h2] at hc; cases hc
/-- A queue stands while a row is appended to. -/
theorem IsQ.grown (h : IsQ T enc w q b1 b2 n us os) (hR : d.R e w base ok v xs) (hT : e ≠ T) (hg : w.grownBy w' v.ownBlock) : IsQ T enc w' q b1 b2 n us os := by
  refine h.keep fun k hk hkk => hg.block k hk fun he => ?_
  obtain ⟨cells, hc⟩ := Kd.R_typed hR k he.symm
  obtain ⟨s1, r1, h1⟩ := h.c1
  obtain ⟨s2, r2, h2⟩ := h.c2
  rcases hkk with rfl | rfl | rfl
  · rw [h.blk] at hc
    injection hc with hc
    injection hc with _ ht
    exact hT ht.symm
  · rw [h1] at hc; cases hc
  · rw [h2] at hc; cases hc
end
theorem own_ge {v1 v : Value} {N W : Nat} (h : v.ownBlock = some N) (hA : v1.ownBlock = v.ownBlock ∨ ∃ b, v1.ownBlock = some b ∧ W ≤ b) (hW : N ≤ W) : ∀ k, v1.ownBlock = some k → N ≤ k := by
  intro k hk
  rcases hA with h1 | ⟨b, h1, hle⟩
  · rw [h1, h] at hk; injection hk with hk; omega
  · rw [h1] at hk; injection hk with hk; omega
theorem own_is (N : Nat) : (Value.slice (some ⟨N, 0, none⟩) 0 0).ownBlock = some N := by simp [Value.ownBlock]
theorem own_only {N : Nat} : ∀ k, (Value.slice (some ⟨N, 0, none⟩) 0 0).ownBlock = some k → N ≤ k := fun k hk => by rw [own_is] at hk; injection hk with hk; omega
theorem R_emptyi (w : World) (base : Nat) (hb : base ≤ w.heap.size) : Kd.R (Kd.int .i64) 3 (w.alloc (.cells #[] 3)) base (fun _ => True) (.slice (some ⟨w.heap.size, 0, none⟩) 0 0) [] :=
  Kd.R_of_own (xs := []) ⟨rfl, .inr ⟨w.heap.size, 0, #[], rfl, hb, blk_new _ _, Nat.zero_le _, by decide, by simp, by simp [encs]⟩⟩ (fun _ _ => trivial)
theorem rd_append_i (l : List Int) (k : Nat) (x : Int) (m : List Int) (h : l.drop k = x :: m) : rd l k = x := by
  have hl : k < l.length := by
    have := congrArg List.length h
    rw [List.length_drop, List.length_cons] at this; omega
  rw [List.drop_eq_getElem_cons hl] at h
  injection h with h1 _
  unfold rd; simp [List.getD_eq_getElem?_getD, List.getElem?_eq_getElem hl, h1]
theorem drop_tail (l : List Int) (k : Nat) (x : Int) (m : List Int) (h : l.drop k = x :: m) : l.drop (k + 1) = m := by
  rw [← List.drop_drop, h]; rfl
set_option maxRecDepth 100000 in
set_option maxHeartbeats 4000000 in
theorem ahead_any (A : Option Addr) (c : Nat) (l : List S29) (w : World) (hr : Kd.C k29 w A l.length l) (hc : l.length ≤ c) (_ : OpsOk l) :
    Calls Try.prog 4 #[.slice A l.length c] w fun e w' => e = .returned (.bool true) ∧ Below w.heap.size w w' := by
  have HR := Lib.hid hr
  clear hr
  go_enter Try.func4, Try.ntmps4
  go_wp2_with fail
  refine (head_any w).mono ?_
  rintro e w1 ⟨rfl, hb⟩
  have HB1 := Lib.hid hb
  clear hb
  go_wp2_with fail
  refine (new_int 64 w1).mono ?_
  rintro e w2 ⟨q, b1, b2, rfl, hq, hb, hq0, hq1, hq2⟩
  rw [show room 64 = 64 from by decide] at hq
  have HQ := Lib.hid hq
  have HB := Lib.hid (below_step HB1.out hb)
  replace hq1 : w.heap.size ≤ b1 := Nat.le_trans HB1.out.size hq1
  replace hq2 : w.heap.size ≤ b2 := Nat.le_trans HB1.out.size hq2
  clear hq hb HB1 hq0
  by_cases hl : (1000 : Int) < (l.length : Int)
  · have hl' : decide ((1000 : Int) < (l.length : Int)) = true := decide_eq_true hl
    clear hq1 hq2
    go_wp2_with fail
    go_ret
    exact ⟨rfl, HB.out⟩
  · have hl' : decide ((1000 : Int) < (l.length : Int)) = false := decide_eq_false hl
    have hln : l.length ≤ 1000 := by omega
    go_wp2_with fail
    go_loopw [5, 6, 7] (fun v5 v6 v7 wr => ∃ (i : Nat) (us os : List Int), i ≤ l.length ∧ v7 = .int .i64 i ∧ us.length ≤ 64 ∧ os.length ≤ 64 ∧ Hid (Kd.R (Kd.int .i64) 3 wr w.heap.size (fun k => True ∧ some k ≠ v6.ownBlock) v5 us) ∧ Hid (Kd.R (Kd.int .i64) 3 wr w.heap.size (fun k => True ∧ some k ≠ v5.ownBlock) v6 os) ∧ Hid (IsQ 48 (Value.int .i64) wr q b1 b2 64 us os) ∧ Hid (Below w.heap.size w wr)) (fun _ _ v _ => l.length - (intOf v).toNat)
    case atStart => exact ⟨0, [], [], by omega, rfl, by simp, by simp, Lib.hid (Kd.R_nil _ _ _ _ _), Lib.hid (Kd.R_nil _ _ _ _ _), HQ, HB⟩
    case round =>
      clear HQ HB
      obtain ⟨i, us, os, hi, rfl, hu, ho, hru, hro, hq, hb⟩ := hrel
      obtain ⟨A5, c5, rfl⟩ := Kd.R_slice hru.out
      obtain ⟨A6, c6, rfl⟩ := Kd.R_slice hro.out
      by_cases hlt : i < l.length
      · obtain ⟨ad, rfl, h0, h1, h2⟩ := at_T29 HR.out (i : Int) (by omega) (by omega)
        simp only [Int.toNat_natCast] at h0 h1 h2
        have hx := op_keeps h0 h1 h2
        clear h0 h1 h2
        generalize rd_T29 l i = x at hx
        obtain ⟨x0, u, x2⟩ := x
        have HX := Lib.hid hx
        obtain ⟨hx0, hx1, hx2⟩ := hx _ hb.out
        simp only at hx0 hx1 hx2
        clear hx
        obtain ⟨r, us', os', hput⟩ : ∃ r us' os', qput 64 u x2 us os = (r, us', os') := ⟨_, _, _, rfl⟩
        have HP : Hid (Calls Try.prog 15 #[.pointer (some ⟨q, 0, none⟩), .bool u, .int .i64 x2] wr.drew fun e w' => e = .returned (.bool r) ∧ IsQ 48 (Value.int .i64) w' q b1 b2 64 us' os' ∧ Only wr.drew w' b1 b2) := Lib.hid (put_to (hq.out.drewN 1) hput)
        have HPUT := Lib.hid hput
        clear hput
        go_wp2_with fail
        refine start_ (n := 12) (S := fun w' => w'.cell? ⟨(ad.add (i * 3)).block, (ad.add (i * 3)).off + 1, none⟩ = some (.bool u) ∧ w'.cell? ⟨(ad.add (i * 3)).block, (ad.add (i * 3)).off + 2, none⟩ = some (.int .i64 x2)) (ds := []) #[false, false, false, false, false, false, false, false, false, false, false, false] (by kernel_rfl) rfl rfl ⟨(HX.out _ (below_drew hb.out)).2.1, (HX.out _ (below_drew hb.out)).2.2⟩ (fun hHeld => ?_)
        refine pure_ (i := 0) (N := some 34) (v := ?_) (a' := ?_) #[true, false, false, false, false, false, false, false, false, false, false, false] rfl rfl (by kernel_rfl) (fun _ _ _ h => h) (Or.inl ⟨by rfl, ?_⟩) ?_ ?_
        rotate_left
        · intro w'
          go_simp
          with_reducible rfl
        rotate_left
        · simp only [Act.put, List.setIfInBounds_toArray, List.set_cons_zero, List.set_cons_succ, i64_w, i32_w]
          rfl
        refine pure_ (i := 1) (N := some 35) (v := ?_) (a' := ?_) #[true, true, false, false, false, false, false, false, false, false, false, false] rfl rfl (by kernel_rfl) (fun _ _ _ h => h) (Or.inl ⟨by rfl, ?_⟩) ?_ ?_
        rotate_left
        · intro w'
          go_simp
          with_reducible rfl
        rotate_left
        · simp only [Act.put, List.setIfInBounds_toArray, List.set_cons_zero, List.set_cons_succ, i64_w, i32_w]
          rfl
        refine pure_ (i := 2) (N := some 36) (v := ?_) (a' := ?_) #[true, true, true, false, false, false, false, false, false, false, false, false] rfl rfl (by kernel_rfl) (fun _ _ _ h => h) (Or.inl ⟨by rfl, ?_⟩) ?_ ?_
        rotate_left
        · intro w'
          go_simp
          with_reducible rfl
        rotate_left
        · simp only [Act.put, List.setIfInBounds_toArray, List.set_cons_zero, List.set_cons_succ, i64_w, i32_w]
          rfl
        refine pure_ (i := 3) (N := some 37) (v := ?_) (a' := ?_) #[true, true, true, true, false, false, false, false, false, false, false, false] rfl rfl (by kernel_rfl) (fun _ _ _ h => h) (Or.inl ⟨by rfl, ?_⟩) ?_ ?_
        rotate_left
        · intro w'
          go_simp
          with_reducible rfl
        rotate_left
        · simp only [Act.put, List.setIfInBounds_toArray, List.set_cons_zero, List.set_cons_succ, i64_w, i32_w]
          rfl
        refine pure_ (i := 4) (N := some 38) (v := ?_) (a' := ?_) #[true, true, true, true, true, false, false, false, false, false, false, false] rfl rfl (by kernel_rfl) (fun _ _ _ h => h) (Or.inl ⟨by rfl, ?_⟩) ?_ ?_
        rotate_left
        · intro w'
          go_simp
          with_reducible rfl
        rotate_left
        · simp only [Act.put, List.setIfInBounds_toArray, List.set_cons_zero, List.set_cons_succ, i64_w, i32_w]
          rfl
        refine pure_ (i := 6) (N := some 40) (v := ?_) (a' := ?_) #[true, true, true, true, true, false, true, false, false, false, false, false] rfl rfl (by kernel_rfl) (fun _ _ _ h => h) (Or.inl ⟨by rfl, ?_⟩) ?_ ?_
        rotate_left
        · intro w'
          go_simp
          with_reducible rfl
        rotate_left
        · simp only [Act.put, List.setIfInBounds_toArray, List.set_cons_zero, List.set_cons_succ, i64_w, i32_w]
          rfl
        refine pure_ (i := 7) (N := some 41) (v := ?_) (a' := ?_) #[true, true, true, true, true, false, true, true, false, false, false, false] rfl rfl (by kernel_rfl) (fun _ _ _ h => h) (Or.inl ⟨by rfl, ?_⟩) ?_ ?_
        rotate_left
        · intro w'
          go_simp
          with_reducible rfl
        rotate_left
        · simp only [Act.put, List.setIfInBounds_toArray, List.set_cons_zero, List.set_cons_succ, i64_w, i32_w]
          rfl
        refine pure_ (i := 8) (N := some 42) (v := ?_) (a' := ?_) #[true, true, true, true, true, false, true, true, true, false, false, false] rfl rfl (by kernel_rfl) (fun _ _ _ h => h) (Or.inl ⟨by rfl, ?_⟩) ?_ ?_
        rotate_left
        · intro w'
          go_simp
          with_reducible rfl
        rotate_left
        · simp only [Act.put, List.setIfInBounds_toArray, List.set_cons_zero, List.set_cons_succ, i64_w, i32_w]
          rfl
        refine pure_ (i := 9) (N := some 43) (v := ?_) (a' := ?_) #[true, true, true, true, true, false, true, true, true, true, false, false] rfl rfl (by kernel_rfl) (fun _ _ _ h => h) (Or.inl ⟨by rfl, ?_⟩) ?_ ?_
        rotate_left
        · intro w'
          go_simp
          with_reducible rfl
        rotate_left
        · simp only [Act.put, List.setIfInBounds_toArray, List.set_cons_zero, List.set_cons_succ, i64_w, i32_w]
          rfl
        refine take_ (i := 5) (N := some 39) (v := ?_) (a' := ?_) #[true, true, true, true, true, true, true, true, true, true, false, false] rfl rfl (by kernel_rfl) (fun _ _ _ h => h) (Or.inl ⟨by rfl, ?_⟩) hHeld ?_ ?_
        rotate_left
        · rintro w' ⟨s0, s1⟩
          go_simp
          with_reducible rfl
        rotate_left
        · simp only [Act.put, List.setIfInBounds_toArray, List.set_cons_zero, List.set_cons_succ, i64_w, i32_w]
          rfl
        refine take_ (i := 10) (N := some 44) (v := ?_) (a' := ?_) #[true, true, true, true, true, true, true, true, true, true, true, false] rfl rfl (by kernel_rfl) (fun _ _ _ h => h) (Or.inl ⟨by rfl, ?_⟩) hHeld ?_ ?_
        rotate_left
        · rintro w' ⟨s0, s1⟩
          go_simp
          with_reducible rfl
        rotate_left
        · simp only [Act.put, List.setIfInBounds_toArray, List.set_cons_zero, List.set_cons_succ, i64_w, i32_w]
          rfl
        refine one_ (i := 11) (N := some 45) #[true, true, true, true, true, true, true, true, true, true, true, true] rfl rfl (by kernel_rfl) (by decide) (fun K hK => ?_)
        refine goes_ Try.func15 (by kernel_rfl) rfl #[.pointer (some ⟨q, 0, none⟩), .bool u, .int .i64 x2] (by rfl) rfl rfl (by simp only [List.map_toArray, List.map_cons, List.map_nil]; rfl) ?_
        with_reducible refine (HP.out).mono ?_
        rintro e w3 ⟨rfl, hq3, ho⟩
        refine ⟨_, rfl, ?_⟩
        have hB3 : Below w.heap.size w w3 := (below_drew hb.out).trans (ho.below hq1 hq2)
        have HQ3 := Lib.hid hq3
        have HO := Lib.hid ho
        clear hq3 ho
        refine hK.out _ _ ⟨(HX.out _ hB3).2.1, (HX.out _ hB3).2.2⟩ (fun hHeld => ?_)
        clear hK K
        refine norm_ (a' := ?_) ?_ ?_
        rotate_left
        · show Act.put _ (some 45) _ = _
          simp only [Act.put, List.setIfInBounds_toArray, List.set_cons_zero, List.set_cons_succ, i64_w, i32_w]
          rfl
        refine done_ (by kernel_rfl) ?_
        have hqd : IsQ 48 (Value.int .i64) wr.drew q b1 b2 64 us os := hq.out.drewN 1
        have HRU := Lib.hid (R_only (Kd.R_drew hru.out) hqd HO.out)
        have HRO := Lib.hid (R_only (Kd.R_drew hro.out) hqd HO.out)
        have HB3 := Lib.hid hB3
        obtain ⟨hx0, hx1, hx2⟩ := HX.out _ HB3.out
        clear hqd hru hro HO hq hb HP hHeld hB3
        cases r with
        | false =>
          have hsame : us' = us ∧ os' = os := by
            have h := HPUT.out
            unfold qput at h
            cases u <;> simp at h <;> split at h <;> simp at h <;> exact ⟨h.1.symm, h.2.symm⟩
          obtain ⟨rfl, rfl⟩ := hsame
          clear HPUT
          go_wp2_with fail
          go_roundw
          case rel => exact ⟨i + 1, us', os', by omega, by go_num, hu, ho, HRU, HRO, HQ3, HB3⟩
          case measure => simp [intOf]; omega
        | true =>
          cases u with
          | true =>
            have hsame : us' = us ++ [x2] ∧ os' = os ∧ us.length < 64 := by
              have h := HPUT.out
              unfold qput at h
              by_cases hlen : us.length < 64 <;> simp [hlen] at h
              exact ⟨h.1.symm, h.2.symm, hlen⟩
            obtain ⟨rfl, rfl, hlen⟩ := hsame
            have HL : Hid ((us.length + 1) * 8 ≤ 140737488355328) := Lib.hid (by omega)
            clear HPUT
            go_wp2_with (at_builtin; refine Kd.R_append (Kd.int .i64) (w0 := w) w.heap.size rfl (.tmp 51) (.tmp 57) 37 3 (.int .i64 0) 8 rfl Try.underlying37 info3 rfl (by decide) (by decide) _ us x2 [.int .i64 x2] (fun k => True ∧ some k ≠ (Value.slice A6 os'.length c6).ownBlock) (fun _ => False) rfl rfl rfl (fun _ h => h.elim) (fun k hk => ⟨trivial, Kd.fresh_ok HRO.out k hk⟩) HRU.out HB3.out HB3.out.size HL.out ?_; intro v5' w4 hR hB4 hG hA; have HRU4 := Lib.hid hR; have HRO4 := Lib.hid (Kd.R_after HRO.out hG hA); have HQ4 := Lib.hid (HQ3.out.grown HRU.out (by decide) hG); have HB4 := Lib.hid hB4; clear hR hB4 hG hA)
            go_roundw
            case rel => exact ⟨i + 1, us ++ [x2], os', by omega, by go_num, by simp; omega, ho, HRU4, HRO4, HQ4, HB4⟩
            case measure => simp [intOf]; omega
          | false =>
            have hsame : us' = us ∧ os' = os ++ [x2] ∧ os.length < 64 := by
              have h := HPUT.out
              unfold qput at h
              by_cases hlen : os.length < 64 <;> simp [hlen] at h
              exact ⟨h.1.symm, h.2.symm, hlen⟩
            obtain ⟨rfl, rfl, hlen⟩ := hsame
            have HL : Hid ((os.length + 1) * 8 ≤ 140737488355328) := Lib.hid (by omega)
            clear HPUT
            go_wp2_with (at_builtin; refine Kd.R_append (Kd.int .i64) (w0 := w) w.heap.size rfl (.tmp 59) (.tmp 65) 37 3 (.int .i64 0) 8 rfl Try.underlying37 info3 rfl (by decide) (by decide) _ os x2 [.int .i64 x2] (fun k => True ∧ some k ≠ (Value.slice A5 us'.length c5).ownBlock) (fun _ => False) rfl rfl rfl (fun _ h => h.elim) (fun k hk => ⟨trivial, Kd.fresh_ok HRU.out k hk⟩) HRO.out HB3.out HB3.out.size HL.out ?_; intro v6' w4 hR hB4 hG hA; have HRO4 := Lib.hid hR; have HRU4 := Lib.hid (Kd.R_after HRU.out hG hA); have HQ4 := Lib.hid (HQ3.out.grown HRO.out (by decide) hG); have HB4 := Lib.hid hB4; clear hR hB4 hG hA)
            go_roundw
            case rel => exact ⟨i + 1, us', os ++ [x2], by omega, by go_num, hu, by simp; omega, HRU4, HRO4, HQ4, HB4⟩
            case measure => simp [intOf]; omega
      · obtain rfl : i = l.length := by omega
        clear HR
        have HE := Lib.hid (R_emptyi wr w.heap.size hb.out.size)
        have HU1 := Lib.hid (Kd.C_alloc (Kd.R_reads' hru.out).2.2 (.cells #[] 3))
        have HO0 := Lib.hid (Kd.R_reads' hro.out).2.2
        have HB1 := Lib.hid (below_alloc hb.out (.cells #[] 3))
        have HBW := Lib.hid (below_alloc (Below.refl wr.heap.size wr) (.cells #[] 3))
        have HSZ := Lib.hid (show w.heap.size ≤ (wr.alloc (.cells #[] 3)).heap.size from Nat.le_trans hb.out.size (by simp))
        have HL : Hid (((([] : List Int).length) + us.length) * 8 ≤ 140737488355328) := Lib.hid (by simp; omega)
        have HL2 : Hid (((([] : List Int) ++ us).length + os.length) * 8 ≤ 140737488355328) := Lib.hid (by simp; omega)
        have hbs := hb.out.size
        obtain ⟨WL, hWL⟩ : ∃ WL, us ++ os = WL := ⟨_, rfl⟩
        have HWL := Lib.hid hWL
        have hwl : WL.length ≤ 128 := by rw [← hWL, List.length_append]; omega
        clear hWL hb hru hro
        go_wp2_with (first | ((with_reducible refine gate_builtin (b := .append) (xs := #[.tmp 67, .tmp 68]) rfl ?_); at_builtin; refine Kd.R_append_rows (Kd.int .i64) (w0 := w) w.heap.size rfl (.tmp 67) (.tmp 68) 37 3 (.int .i64 0) 8 rfl Try.underlying37 info3 rfl (by decide) (by decide) _ [] us _ _ _ (fun _ => True) (fun _ => False) rfl rfl HE.out HU1.out (fun _ _ h => h) (fun _ h => h.elim) (fun _ _ => trivial) HB1.out HSZ.out HL.out ?_; intro v1 w4 hR hB4 hG hA; have HR4 := Lib.hid hR; have HB4 := Lib.hid hB4; have HBW4 := Lib.hid (HBW.out.grown hG (by simp) own_only); have HA4 := Lib.hid (own_ge (own_is wr.heap.size) hA (by simp)); have HO4 := Lib.hid (Kd.C_below HO0.out HBW4.out); clear hR hB4 hG hA) | ((with_reducible refine gate_builtin (b := .append) (xs := #[.tmp 69, .tmp 70]) rfl ?_); at_builtin; refine Kd.R_append_rows (Kd.int .i64) (w0 := w) w.heap.size rfl (.tmp 69) (.tmp 70) 37 3 (.int .i64 0) 8 rfl Try.underlying37 info3 rfl (by decide) (by decide) v1 ([] ++ us) os _ _ _ (fun _ => True) (fun _ => False) rfl rfl HR4.out HO4.out (fun _ _ h => h) (fun _ h => h.elim) (fun _ _ => trivial) HB4.out HB4.out.size HL2.out ?_; intro v2 w5 hR hB5 hG hA; have HB5 := Lib.hid hB5; have HBW5 := Lib.hid (HBW4.out.grown hG HBW4.out.size (fun k hk => HA4.out k hk)); rw [List.nil_append, HWL.out] at hR; obtain ⟨A8, c8, rfl⟩ := Kd.R_slice hR; have HW8 := Lib.hid hR; clear hR hB5 hG hA))
        have HQ5 := Lib.hid (hq.out.below HBW5.out)
        clear hq HE HU1 HO0 HB1 HBW HSZ HL HL2
        go_loopw [9] (fun v9 wx => ∃ (j : Nat) (us' os' : List Int), j ≤ WL.length ∧ v9 = .int .i64 j ∧ Hid (us' ++ os' = WL.drop j) ∧ Hid (Kd.R (Kd.int .i64) 3 wx w.heap.size (fun _ => True) (.slice A8 WL.length c8) WL) ∧ Hid (IsQ 48 (Value.int .i64) wx q b1 b2 64 us' os') ∧ Hid (Below w.heap.size w wx)) (fun v _ => WL.length - (intOf v).toNat)
        case atStart => exact ⟨0, us, os, by omega, rfl, HWL, HW8, HQ5, HB5⟩
        case round =>
          clear HW8 HQ5 HB5 HWL
          obtain ⟨j, us', os', hj, rfl, hd, hw8, hq5, hb5⟩ := hrel
          by_cases hjl : j < WL.length
          · obtain ⟨x, m, hxm⟩ : ∃ x m, WL.drop j = x :: m := by
              rw [List.drop_eq_getElem_cons hjl]; exact ⟨_, _, rfl⟩
            have hrd := rd_append_i WL j x m hxm
            have hdt := drop_tail WL j x m hxm
            obtain ⟨us2, os2, htk, hd2⟩ : ∃ us2 os2, qtake 0 us' os' = (x, true, us2, os2) ∧ us2 ++ os2 = WL.drop (j + 1) := by
              have h := hd.out
              rw [hxm] at h
              cases us' with
              | cons y us'' =>
                rw [List.cons_append] at h
                injection h with h1 h2
                subst h1
                exact ⟨us'', os', rfl, by rw [hdt]; exact h2⟩
              | nil =>
                cases os' with
                | nil => cases h
                | cons y os'' =>
                  rw [List.nil_append] at h
                  injection h with h1 h2
                  subst h1
                  exact ⟨[], os'', rfl, by rw [hdt]; exact h2⟩
            have HT := Lib.hid (take_to hq5.out htk)
            have HD2 := Lib.hid hd2
            have HRD := Lib.hid hrd
            clear htk hd2 hrd hdt hxm hd
            obtain ⟨ad8, h8, _⟩ := Kd.at_int (Kd.R_reads' hw8.out).2.2 (j : Int) (by omega) (by omega)
            subst h8
            go_wp2_with fail
            refine HT.out.mono ?_
            rintro e w6 ⟨rfl, hq6, hon⟩
            have HW6 := Lib.hid (R_only hw8.out hq5.out hon)
            have HB6 := Lib.hid (hb5.out.trans (hon.below hq1 hq2))
            have HQ6 := Lib.hid hq6
            obtain ⟨ad9, h8, hx8⟩ := Kd.at_int (Kd.R_reads' HW6.out).2.2 (j : Int) (by omega) (by omega)
            obtain rfl : ad8 = ad9 := by injection h8
            rw [HRD.out] at hx8
            simp only [Int.toNat_natCast] at hx8
            have hxx : (x != x) = false := by simp
            clear h8 hq6 hon HT hw8 hq5 hb5
            go_wp2_with fail
            go_roundw
            case rel => exact ⟨j + 1, us2, os2, by omega, by go_num, HD2, HW6, HQ6, HB6⟩
            case measure => simp [intOf]; omega
          · obtain rfl : j = WL.length := by omega
            have h := hd.out
            rw [List.drop_length] at h
            obtain ⟨rfl, rfl⟩ := List.append_eq_nil_iff.1 h
            have HT := Lib.hid (take_to hq5.out (us' := []) (os' := []) (r := false) (x := 0) rfl)
            have hu' : decide ((us.length : Int) ≤ 64) = true := decide_eq_true (by omega)
            have ho' : decide ((os.length : Int) ≤ 64) = true := decide_eq_true (by omega)
            clear h hd
            go_wp2_with fail
            refine HT.out.mono ?_
            rintro e w6 ⟨rfl, hq6, hon⟩
            have HB6 := Lib.hid (hb5.out.trans (hon.below hq1 hq2))
            clear hq6 hon HT
            go_wp2_with fail
            go_ret
            exact ⟨rfl, HB6.out⟩
end Go.Proofs.Ytinipcfnmngccaa
