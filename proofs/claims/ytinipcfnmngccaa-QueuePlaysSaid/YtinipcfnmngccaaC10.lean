/- The law QueuePlays, walked. -/
import Derived.Test.YtinipcfnmngccaaC8
namespace Go.Proofs.Ytinipcfnmngccaa
open Go.Conc Go.RowKit Go.Proofs.YtinipcfnmngccaaW.PrintWords Go.Proofs.YtinipcfnmngccaaW.PrintLast Go.Proofs.YtinipcfnmngccaaW.PrintMore
set_option linter.unusedVariables false
set_option linter.unusedSimpArgs false
theorem qput_len {n : Nat} {u r : Bool} {x : Int} {us os us' os' : List Int} (h : qput n u x us os = (r, us', os')) (hu : us.length ≤ n) (ho : os.length ≤ n) : us'.length ≤ n ∧ os'.length ≤ n := by
  unfold qput at h
  cases u with
  | true =>
    by_cases hl : us.length < n
    · simp [hl] at h; obtain ⟨_, rfl, rfl⟩ := h; exact ⟨by simp; omega, ho⟩
    · simp [hl] at h; obtain ⟨_, rfl, rfl⟩ := h; exact ⟨hu, ho⟩
  | false =>
    by_cases hl : os.length < n
    · simp [hl] at h; obtain ⟨_, rfl, rfl⟩ := h; exact ⟨hu, by simp; omega⟩
    · simp [hl] at h; obtain ⟨_, rfl, rfl⟩ := h; exact ⟨hu, ho⟩
theorem qtake_len {n : Nat} {r : Bool} {x : Int} {us os us' os' : List Int} (h : qtake 0 us os = (x, r, us', os')) (hu : us.length ≤ n) (ho : os.length ≤ n) : us'.length ≤ n ∧ os'.length ≤ n := by
  cases us with
  | cons y us => simp [qtake] at h; obtain ⟨_, _, rfl, rfl⟩ := h; exact ⟨by simp at hu; omega, ho⟩
  | nil =>
    cases os with
    | cons y os => simp [qtake] at h; obtain ⟨_, _, rfl, rfl⟩ := h; exact ⟨by simp, by simp at ho; omega⟩
    | nil => simp [qtake] at h; obtain ⟨_, _, rfl, rfl⟩ := h; exact ⟨by simp, by simp⟩
set_option maxRecDepth 100000 in
set_option maxHeartbeats 4000000 in
theorem plays_any (k : Int) (A : Option Addr) (c : Nat) (l : List S29) (w : World) (_ : (Lit.int .i64 k).wf = true) (hr : Kd.C k29 w A l.length l) (hc : l.length ≤ c) (_ : OpsOk l) :
    Calls Try.prog 3 #[.int .i64 k, .slice A l.length c] w fun e w' => e = .returned (.bool true) ∧ Below w.heap.size w w' := by
  obtain ⟨n, hn, hn0⟩ : ∃ n, room k = n ∧ n ≤ 64 := ⟨_, rfl, by unfold room; omega⟩
  have HN := Lib.hid hn
  have HR := Lib.hid hr
  clear hn hr
  go_enter Try.func3, Try.ntmps3
  go_wp2_with fail
  refine (head_any w).mono ?_
  rintro e w1 ⟨rfl, hb⟩
  have HB1 := Lib.hid hb
  clear hb
  go_wp2_with fail
  refine (new_int k w1).mono ?_
  rintro e w2 ⟨q, b1, b2, rfl, hq, hb, hq0, hq1, hq2⟩
  rw [HN.out] at hq
  have HQ := Lib.hid hq
  have HB := Lib.hid (below_step HB1.out hb)
  have hql : q < w2.heap.size := blk_lt hq.blk
  have hb1l := hq.lt1
  have hb2l := hq.lt2
  replace hq0 : w.heap.size ≤ q := Nat.le_trans HB1.out.size hq0
  replace hq1 : w.heap.size ≤ b1 := Nat.le_trans HB1.out.size hq1
  replace hq2 : w.heap.size ≤ b2 := Nat.le_trans HB1.out.size hq2
  clear hq hb HB1
  go_wp2_with fail
  refine (rnew_any k w2).mono ?_
  rintro e w3 ⟨r, rfl, hwr2, hrf, hb⟩
  rw [HN.out] at hrf
  have hwr : w.heap.size ≤ r := Nat.le_trans HB.out.size hwr2
  have HF := Lib.hid (show IsRf w.heap.size w3 r n (.slice none 0 0) (.slice none 0 0) [] [] from ⟨hrf.blk, Kd.R_nil _ _ _ _ _, Kd.R_nil _ _ _ _ _⟩)
  have HQ3 := Lib.hid (HQ.out.below hb)
  have HB3 := Lib.hid (below_step HB.out hb)
  replace hql : q < r := by omega
  replace hb1l : b1 < r := by omega
  replace hb2l : b2 < r := by omega
  clear hrf hb HQ HB hwr2
  by_cases hl : (1000 : Int) < (l.length : Int)
  · have hl' : decide ((1000 : Int) < (l.length : Int)) = true := decide_eq_true hl
    clear hq1 hq2
    go_wp2_with fail
    go_ret
    exact ⟨rfl, HB3.out⟩
  · have hl' : decide ((1000 : Int) < (l.length : Int)) = false := decide_eq_false hl
    have hln : l.length ≤ 1000 := by omega
    go_wp2_with fail
    go_loopw [8] (fun v8 wr => ∃ (i : Nat) (us os : List Int) (vU vO : Value), i ≤ l.length ∧ v8 = .int .i64 i ∧ us.length ≤ n ∧ os.length ≤ n ∧ Hid (IsQ 48 (Value.int .i64) wr q b1 b2 n us os) ∧ Hid (IsRf w.heap.size wr r n vU vO us os) ∧ Hid (Below w.heap.size w wr)) (fun v _ => l.length - (intOf v).toNat)
    case atStart => exact ⟨0, [], [], _, _, by omega, rfl, by simp, by simp, HQ3, HF, HB3⟩
    case round =>
      clear HQ3 HF HB3
      obtain ⟨i, us, os, vU, vO, hi, rfl, hu, ho, hq, hf, hb⟩ := hrel
      by_cases hlt : i < l.length
      · obtain ⟨ad, rfl, h0, h1, h2⟩ := at_T29 HR.out (i : Int) (by omega) (by omega)
        simp only [Int.toNat_natCast] at h0 h1 h2
        have hx := op_keeps h0 h1 h2
        clear h0 h1 h2
        generalize rd_T29 l i = x at hx
        obtain ⟨x0, u, x2⟩ := x
        obtain ⟨hx0, hx1, hx2⟩ := hx _ hb.out
        simp only at hx0 hx1 hx2
        clear hx
        obtain ⟨W, hW⟩ : ∃ W, W = wr.alloc (.cells #[.int .i64 x0, .bool u, .int .i64 x2] 29) := ⟨_, rfl⟩
        have hbox : W.heap[wr.heap.size]? = some (.cells #[.int .i64 x0, .bool u, .int .i64 x2] 29 (0, 0)) := by rw [hW]; exact blk_new _ _
        have hbel : Below wr.heap.size wr W := by rw [hW]; exact below_alloc (Below.refl _ _) _
        have HQ := Lib.hid (hq.out.below hbel)
        have HF := Lib.hid (show IsRf w.heap.size W r n vU vO us os from ⟨by rw [hW]; exact blk_alloc hf.out.blk _, by rw [hW]; exact Kd.R_alloc hf.out.ru _, by rw [hW]; exact Kd.R_alloc hf.out.ro _⟩)
        have HB := Lib.hid (below_step hb.out hbel)
        have HBOX := Lib.hid hbox
        have HW := Lib.hid hW
        have hpb1 : wr.heap.size ≠ b1 := Nat.ne_of_gt hq.out.lt1
        have hpb2 : wr.heap.size ≠ b2 := Nat.ne_of_gt hq.out.lt2
        clear hW hbox hbel hq hf hb
        by_cases h34 : x0 = 3 ∨ x0 = 4
        · obtain ⟨y, t, us', os', htk⟩ : ∃ y t us' os', qtake 0 us os = (y, t, us', os') := ⟨_, _, _, _, rfl⟩
          obtain ⟨hu4, ho4⟩ := qtake_len htk hu ho
          rcases h34 with rfl | rfl
          · have HP := Lib.hid (take_to HQ.out htk)
            have hrt := fun w' h => rtake_any w.heap.size r n vU vO us os w' (by omega) (by omega) hwr h
            rw [htk] at hrt
            have HRT : Hid (∀ w', IsRf w.heap.size w' r n vU vO us os → w.heap.size ≤ w'.heap.size → Calls Try.prog 12 #[.pointer (some ⟨r, 0, none⟩)] w' fun e w'' => e = .returned (.tuple #[.int .i64 y, .bool t]) ∧ RPost w.heap.size w' r n us' os' w'') := Lib.hid (fun w' h hb => hrt w' hb h)
            clear htk hrt
            go_wp2_with fail
            rw [← HW.out]
            refine HP.out.mono ?_
            rintro e w3 ⟨rfl, hq3, hon⟩
            have HF3 := Lib.hid (HF.out.only HQ.out hon (by omega) (by omega))
            have HB3 := Lib.hid (HB.out.trans (hon.below hq1 hq2))
            have HQ3 := Lib.hid hq3
            have hs3 := HB3.out.size
            clear hq3 hon HP
            go_wp2_with fail
            refine (HRT.out w3 HF3.out hs3).mono ?_
            rintro e w4 ⟨rfl, vU', vO', hf4, hrf, hb4⟩
            have HF4 := Lib.hid hf4
            have HQ4 := Lib.hid (HQ3.out.rf (by decide) hrf (by omega) (by omega) (by omega))
            have HB4 := Lib.hid (HB3.out.trans hb4)
            have hy1 : (y != y) = false := by simp
            have ht1 : (t != t) = false := by simp
            clear hf4 hrf hb4 HRT HF3 HQ3 HB3 hs3

            generalize hul : us'.length = lu at hu4
            generalize hol : os'.length = lo at ho4
            have hm1 := many_int q b1 b2 n us' os' w4 HQ4.out
            rw [hul, hol] at hm1
            have HM1 := Lib.hid hm1
            have hm2 := fun d => rmany_any w.heap.size r n vU' vO' us' os' (w4.drewN d) (HF4.out.drewN d)
            rw [hul, hol] at hm2
            have HM2 := Lib.hid hm2
            have HUL := Lib.hid hul
            have HOL := Lib.hid hol
            have hxx : ((lu : Int) != (lu : Int)) = false := by simp
            have hyy : ((lo : Int) != (lo : Int)) = false := by simp
            clear hm1 hm2 hul hol
            go_wp2_with fail
            refine HM1.out.mono ?_
            rintro e w5 ⟨rfl, d, rfl⟩
            go_wp2_with fail
            refine (HM2.out d).mono ?_
            rintro e w6 ⟨rfl, d', rfl⟩
            go_wp2_with fail
            go_roundw
            case rel => exact ⟨i + 1, us', os', vU', vO', by omega, by go_num, by rw [HUL.out]; exact hu4, by rw [HOL.out]; exact ho4, Lib.hid (HQ4.out.drewN (d + d')), Lib.hid (HF4.out.drewN (d + d')), Lib.hid (below_drewN HB4.out (d + d'))⟩
            case measure => simp [intOf]; omega

          · have HP := Lib.hid (take_to HQ.out htk)
            have hrt := fun w' h => rtake_any w.heap.size r n vU vO us os w' (by omega) (by omega) hwr h
            rw [htk] at hrt
            have HRT : Hid (∀ w', IsRf w.heap.size w' r n vU vO us os → w.heap.size ≤ w'.heap.size → Calls Try.prog 12 #[.pointer (some ⟨r, 0, none⟩)] w' fun e w'' => e = .returned (.tuple #[.int .i64 y, .bool t]) ∧ RPost w.heap.size w' r n us' os' w'') := Lib.hid (fun w' h hb => hrt w' hb h)
            clear htk hrt
            go_wp2_with fail
            rw [← HW.out]
            refine HP.out.mono ?_
            rintro e w3 ⟨rfl, hq3, hon⟩
            have HF3 := Lib.hid (HF.out.only HQ.out hon (by omega) (by omega))
            have HB3 := Lib.hid (HB.out.trans (hon.below hq1 hq2))
            have HQ3 := Lib.hid hq3
            have hs3 := HB3.out.size
            clear hq3 hon HP
            go_wp2_with fail
            refine (HRT.out w3 HF3.out hs3).mono ?_
            rintro e w4 ⟨rfl, vU', vO', hf4, hrf, hb4⟩
            have HF4 := Lib.hid hf4
            have HQ4 := Lib.hid (HQ3.out.rf (by decide) hrf (by omega) (by omega) (by omega))
            have HB4 := Lib.hid (HB3.out.trans hb4)
            have hy1 : (y != y) = false := by simp
            have ht1 : (t != t) = false := by simp
            clear hf4 hrf hb4 HRT HF3 HQ3 HB3 hs3

            generalize hul : us'.length = lu at hu4
            generalize hol : os'.length = lo at ho4
            have hm1 := many_int q b1 b2 n us' os' w4 HQ4.out
            rw [hul, hol] at hm1
            have HM1 := Lib.hid hm1
            have hm2 := fun d => rmany_any w.heap.size r n vU' vO' us' os' (w4.drewN d) (HF4.out.drewN d)
            rw [hul, hol] at hm2
            have HM2 := Lib.hid hm2
            have HUL := Lib.hid hul
            have HOL := Lib.hid hol
            have hxx : ((lu : Int) != (lu : Int)) = false := by simp
            have hyy : ((lo : Int) != (lo : Int)) = false := by simp
            clear hm1 hm2 hul hol
            go_wp2_with fail
            refine HM1.out.mono ?_
            rintro e w5 ⟨rfl, d, rfl⟩
            go_wp2_with fail
            refine (HM2.out d).mono ?_
            rintro e w6 ⟨rfl, d', rfl⟩
            go_wp2_with fail
            go_roundw
            case rel => exact ⟨i + 1, us', os', vU', vO', by omega, by go_num, by rw [HUL.out]; exact hu4, by rw [HOL.out]; exact ho4, Lib.hid (HQ4.out.drewN (d + d')), Lib.hid (HF4.out.drewN (d + d')), Lib.hid (below_drewN HB4.out (d + d'))⟩
            case measure => simp [intOf]; omega
        · have hn3 : (x0 == 3) = false := beq_eq_false_iff_ne.mpr (fun h => h34 (.inl h))
          have hn4 : (x0 == 4) = false := beq_eq_false_iff_ne.mpr (fun h => h34 (.inr h))
          clear h34
          by_cases h5 : x0 = 5
          · subst h5
            have hd := drain_int q b1 b2 n us os W HQ.out (by omega)
            have hrd := fun w' h => rdrain_any w.heap.size r n vU vO us os w' (by omega) (by omega) hwr h
            generalize us.length + os.length = s at hd hrd
            have HP : Hid (Calls Try.prog 13 #[.pointer (some ⟨q, 0, none⟩)] W fun e w' => e = .returned (.int .i64 (s : Nat)) ∧ IsQ 48 (Value.int .i64) w' q b1 b2 n [] [] ∧ Only W w' b1 b2) := Lib.hid hd
            have HRT : Hid (∀ w', IsRf w.heap.size w' r n vU vO us os → Calls Try.prog 14 #[.pointer (some ⟨r, 0, none⟩)] w' fun e w'' => e = .returned (.int .i64 (s : Nat)) ∧ RPost w.heap.size w' r n [] [] w'') := Lib.hid hrd
            obtain ⟨us', hus'⟩ : ∃ z : List Int, z = [] := ⟨_, rfl⟩
            obtain ⟨os', hos'⟩ : ∃ z : List Int, z = [] := ⟨_, rfl⟩
            have hu4 : us'.length ≤ n := by rw [hus']; simp
            have ho4 : os'.length ≤ n := by rw [hos']; simp
            have HUS := Lib.hid hus'
            have HOS := Lib.hid hos'
            clear hd hrd hus' hos'
            go_wp2_with fail
            rw [← HW.out]
            refine HP.out.mono ?_
            rintro e w3 ⟨rfl, hq3, hon⟩
            have HF3 := Lib.hid (HF.out.only HQ.out hon (by omega) (by omega))
            have HB3 := Lib.hid (HB.out.trans (hon.below hq1 hq2))
            have HQ3 := Lib.hid hq3
            clear hq3 hon HP
            go_wp2_with fail
            refine (HRT.out w3 HF3.out).mono ?_
            rintro e w4 ⟨rfl, vU', vO', hf4, hrf, hb4⟩
            have HF4 : Hid (IsRf w.heap.size w4 r n vU' vO' us' os') := Lib.hid (by rw [HUS.out, HOS.out]; exact hf4)
            have HQ4 : Hid (IsQ 48 (Value.int .i64) w4 q b1 b2 n us' os') := Lib.hid (by rw [HUS.out, HOS.out]; exact HQ3.out.rf (by decide) hrf (by omega) (by omega) (by omega))
            have HB4 := Lib.hid (HB3.out.trans hb4)
            have hy1 : ((s : Int) != (s : Int)) = false := by simp
            clear hf4 hrf hb4 HRT HF3 HQ3 HB3 HUS HOS

            generalize hul : us'.length = lu at hu4
            generalize hol : os'.length = lo at ho4
            have hm1 := many_int q b1 b2 n us' os' w4 HQ4.out
            rw [hul, hol] at hm1
            have HM1 := Lib.hid hm1
            have hm2 := fun d => rmany_any w.heap.size r n vU' vO' us' os' (w4.drewN d) (HF4.out.drewN d)
            rw [hul, hol] at hm2
            have HM2 := Lib.hid hm2
            have HUL := Lib.hid hul
            have HOL := Lib.hid hol
            have hxx : ((lu : Int) != (lu : Int)) = false := by simp
            have hyy : ((lo : Int) != (lo : Int)) = false := by simp
            clear hm1 hm2 hul hol
            go_wp2_with fail
            refine HM1.out.mono ?_
            rintro e w5 ⟨rfl, d, rfl⟩
            go_wp2_with fail
            refine (HM2.out d).mono ?_
            rintro e w6 ⟨rfl, d', rfl⟩
            go_wp2_with fail
            go_roundw
            case rel => exact ⟨i + 1, us', os', vU', vO', by omega, by go_num, by rw [HUL.out]; exact hu4, by rw [HOL.out]; exact ho4, Lib.hid (HQ4.out.drewN (d + d')), Lib.hid (HF4.out.drewN (d + d')), Lib.hid (below_drewN HB4.out (d + d'))⟩
            case measure => simp [intOf]; omega
          · have hn5 : (x0 == 5) = false := beq_eq_false_iff_ne.mpr h5
            clear h5
            obtain ⟨t, us', os', hpt⟩ : ∃ t us' os', qput n u x2 us os = (t, us', os') := ⟨_, _, _, rfl⟩
            obtain ⟨hu4, ho4⟩ := qput_len hpt hu ho
            have HP := Lib.hid (put_to HQ.out hpt)
            have hrp := fun w' hb h => rput_any w.heap.size r n vU vO us os u x2 w' (by omega) (by omega) hwr hb h
            rw [hpt] at hrp
            have HRT : Hid (∀ w', w.heap.size ≤ w'.heap.size → IsRf w.heap.size w' r n vU vO us os → Calls Try.prog 16 #[.pointer (some ⟨r, 0, none⟩), .bool u, .int .i64 x2] w' fun e w'' => e = .returned (.bool t) ∧ RPost w.heap.size w' r n us' os' w'') := Lib.hid hrp
            clear hpt hrp
            go_wp2_with fail
            rw [← HW.out]
            refine HP.out.mono ?_
            rintro e w3 ⟨rfl, hq3, hon⟩
            have HF3 := Lib.hid (HF.out.only HQ.out hon (by omega) (by omega))
            have HB3 := Lib.hid (HB.out.trans (hon.below hq1 hq2))
            have HQ3 := Lib.hid hq3
            have hs3 := HB3.out.size
            have hbox3 := (hon.block wr.heap.size hpb1 hpb2).trans HBOX.out
            have hc1 : w3.cell? ⟨wr.heap.size, 1, none⟩ = some (.bool u) := (blk_cell hbox3 1).trans rfl
            have hc2 : w3.cell? ⟨wr.heap.size, 2, none⟩ = some (.int .i64 x2) := (blk_cell hbox3 2).trans rfl
            clear hq3 hon HP hbox3
            go_wp2_with fail
            refine (HRT.out w3 hs3 HF3.out).mono ?_
            rintro e w4 ⟨rfl, vU', vO', hf4, hrf, hb4⟩
            have HF4 := Lib.hid hf4
            have HQ4 := Lib.hid (HQ3.out.rf (by decide) hrf (by omega) (by omega) (by omega))
            have HB4 := Lib.hid (HB3.out.trans hb4)
            have ht1 : (t != t) = false := by simp
            clear hf4 hrf hb4 HRT HF3 HQ3 HB3 hs3 hc1 hc2

            generalize hul : us'.length = lu at hu4
            generalize hol : os'.length = lo at ho4
            have hm1 := many_int q b1 b2 n us' os' w4 HQ4.out
            rw [hul, hol] at hm1
            have HM1 := Lib.hid hm1
            have hm2 := fun d => rmany_any w.heap.size r n vU' vO' us' os' (w4.drewN d) (HF4.out.drewN d)
            rw [hul, hol] at hm2
            have HM2 := Lib.hid hm2
            have HUL := Lib.hid hul
            have HOL := Lib.hid hol
            have hxx : ((lu : Int) != (lu : Int)) = false := by simp
            have hyy : ((lo : Int) != (lo : Int)) = false := by simp
            clear hm1 hm2 hul hol
            go_wp2_with fail
            refine HM1.out.mono ?_
            rintro e w5 ⟨rfl, d, rfl⟩
            go_wp2_with fail
            refine (HM2.out d).mono ?_
            rintro e w6 ⟨rfl, d', rfl⟩
            go_wp2_with fail
            go_roundw
            case rel => exact ⟨i + 1, us', os', vU', vO', by omega, by go_num, by rw [HUL.out]; exact hu4, by rw [HOL.out]; exact ho4, Lib.hid (HQ4.out.drewN (d + d')), Lib.hid (HF4.out.drewN (d + d')), Lib.hid (below_drewN HB4.out (d + d'))⟩
            case measure => simp [intOf]; omega
      · obtain rfl : i = l.length := by omega
        go_wp2_with fail
        go_ret
        exact ⟨rfl, hb.out⟩
end Go.Proofs.Ytinipcfnmngccaa
