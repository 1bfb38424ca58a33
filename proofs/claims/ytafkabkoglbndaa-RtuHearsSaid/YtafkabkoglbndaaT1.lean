/- The reference's Get and Put; the law RtuTells, walked. -/
import Derived.Test.YtafkabkoglbndaaH1
namespace Go.Proofs.Ytafkabkoglbndaa
open Go.RowKit Go.Proofs.YtafkabkoglbndaaW.PrintWords Go.Proofs.YtafkabkoglbndaaW.PrintLast Go.Proofs.YtafkabkoglbndaaW.PrintMore
set_option linter.unusedVariables false
set_option linter.unusedSimpArgs false
theorem below_fresh {w w4 : World} (hG : ((World.drew w).alloc (.cells #[] 5)).grownBy w4 (Value.slice (some ⟨w.heap.size, 0, none⟩) 0 0).ownBlock) : Below w.heap.size w w4 :=
  (below_alloc (below_drew1 (Below.refl w.heap.size w)) (.cells #[] 5)).grown hG (by show w.heap.size ≤ (w.heap.push _).size; simp) (fun k hk => by
    have e : (Value.slice (some ⟨w.heap.size, 0, none⟩) 0 0).ownBlock = some w.heap.size := by simp [Value.ownBlock]
    rw [e] at hk; injection hk with hk; omega)
theorem rput_f {u : Int} {l : List Int} (hu : 0 ≤ u ∧ u ≤ 255) (h : Bytes l) : QA.watchkeeperref02_Put.f (10 * (u :: l).length + 1) u l = some (putOf u l) := by
  unfold QA.watchkeeperref02_Put.f putOf
  by_cases h1 : l.length = 0
  · rw [if_pos (by omega), if_pos h1]
  rw [if_neg (by omega), if_neg h1]
  by_cases h2 : 253 < l.length
  · rw [if_pos (by omega), if_pos h2]
  rw [if_neg (by omega), if_neg h2, Option.bind_some, if_pos (by simp; omega)]
  have e : QA.watchkeeperref01_Seal.f (10 * (u :: l).length + 1) ([u] ++ l) = some (sealOf (u :: l)) := rseal_f (l := u :: l) (bytes_cons hu h) (by simp; omega)
  rw [e, Option.bind_some]
theorem rput_any (u : Int) (A : Option Addr) (c : Nat) (l : List Int) (w : World) (hu : 0 ≤ u ∧ u ≤ 255) (hb : Bytes l) (hr : Kd.C (Kd.int .u8) w A l.length l) (hc : l.length ≤ c) :
    Calls Try.prog 13 #[.int .u8 u, .slice A l.length c] w (RowPost w (putOf u l)) := by
  refine (QA.watchkeeperref02_Put.calls (10 * (u :: l).length + 1) u A c l (putOf u l) w hr hc (rput_f hu hb)).mono ?_
  rintro e w' ⟨v, rfl, ho, hb⟩
  obtain ⟨B, d, rfl⟩ := Kd.R_slice ho
  obtain ⟨_, h2, h3⟩ := Kd.R_reads' ho
  exact ⟨B, d, rfl, h2, h3, hb⟩
set_option maxRecDepth 100000 in
set_option maxHeartbeats 2000000 in
theorem rget_any (A : Option Addr) (c : Nat) (l : List Int) (w : World) (hb : Bytes l) (hr : Kd.C (Kd.int .u8) w A l.length l) (hc : l.length ≤ c) :
    Calls Try.prog 11 #[.slice A l.length c] w (GetPost w (getOf l)) := by
  by_cases h1 : 256 < l.length
  · have e : getOf l = (0, [], 22) := get_long l h1
    have HE := Lib.hid e
    have h1i : (256 : Int) < (l.length : Int) := by omega
    clear e hr hb
    go_enter Try.func11, Try.ntmps11
    go_wp2_with fail
    go_ret3
    rw [HE.out]
    exact ⟨none, 0, rfl, Nat.le_refl _, Kd.C_nil _ _, Below.refl _ _⟩
  by_cases h2 : l.length < 4
  · have e : getOf l = (0, [], 21) := by unfold getOf; rw [if_neg h1, if_pos h2]
    have HE := Lib.hid e
    have h1i : ¬ (256 : Int) < (l.length : Int) := by omega
    have h2i : (l.length : Int) < 4 := by omega
    clear e hr hb
    go_enter Try.func11, Try.ntmps11
    go_wp2_with fail
    go_ret3
    rw [HE.out]
    exact ⟨none, 0, rfl, Nat.le_refl _, Kd.C_nil _ _, Below.refl _ _⟩
  have h1i : ¬ (256 : Int) < (l.length : Int) := by omega
  have h2i : ¬ (l.length : Int) < 4 := by omega
  by_cases hs : sum l = 0
  · have e : getOf l = (rd l 0, (l.take (l.length - 2)).drop 1, 0) := by unfold getOf; rw [if_neg h1, if_neg h2, if_pos hs]
    have hc2 : 2 ≤ l.length ∧ sum l = 0 := ⟨by omega, hs⟩
    have ho := ropen_calls A c l (l.take (l.length - 2)) true w (by omega) hb hr hc (if_pos hc2) (decide_eq_true hc2)
    obtain ⟨x, hx⟩ : ∃ x, l.take (l.length - 2) = x := ⟨_, rfl⟩
    have hxl : 2 ≤ x.length ∧ x.length ≤ 1000 := by rw [← hx, List.length_take]; omega
    have hrd : rd x 0 = rd l 0 := by
      have e0 : rd x ((0 : Nat) : Int) = rd l ((0 : Nat) : Int) := by rw [rd_at _ 0 (by omega), rd_at l 0 (by omega)]; simp [← hx]
      exact e0
    rw [hx, ← hrd] at e
    rw [hx] at ho
    have HE0 := Lib.hid e
    have HOP := Lib.hid ho
    clear e ho hx hrd hs hc2 hr hb
    obtain ⟨hx2, hx1⟩ := hxl
    go_enter Try.func11, Try.ntmps11
    go_wp2_with fail
    refine HOP.out.mono ?_
    rintro e w1 ⟨B, d, rfl, hd, hC, hb⟩
    have HB := Lib.hid hb
    obtain ⟨i0, hi0, _, hsz, _⟩ := info_parts infob5
    obtain ⟨A', hcut, hA', hC'⟩ := print_drop_of (P := Try.prog) (Value.int .u8) 0 22 5 .i64 Try.underlying22 hi0 hsz B d x 1 (by omega) (by omega) hd
    have hD := Kd.C_of_reads (h1 := fun _ => rfl) (hA' _ (Kd.reads_of_C hC))
    obtain ⟨ad, rfl, hx0⟩ := Kd.at_int hC 0 (by omega) (by omega)
    have ead : (ad.add (0 : Int).toNat) = ad := by unfold Addr.add; simp
    rw [ead] at hx0
    obtain ⟨u, hu⟩ : ∃ u, rd x 0 = u := ⟨_, rfl⟩
    rw [hu] at hx0
    obtain ⟨c', hc'⟩ : ∃ c' : Nat, d - (1 : Int).toNat = c' := ⟨_, rfl⟩
    obtain ⟨p, hp⟩ : ∃ p, x.drop (1 : Int).toNat = p := ⟨_, rfl⟩
    rw [hp, hc'] at hcut
    rw [hp] at hD
    have hpl : p.length ≤ 1000 := by rw [← hp, List.length_drop]; omega
    have HX : Hid (∀ w', Below w1.heap.size w1 w' → w'.cell? ad = some (.int .u8 u)) := Lib.hid (fun w' h => (h.cell (World.block_lt_of_cell? w1 _ hx0)).trans hx0)
    have HD : Hid (Kd.C (Kd.int .u8) ((World.drew w1).alloc (.cells #[] 5)) A' p.length p) := Lib.hid (Kd.C_below hD (below_alloc (below_drew1 (Below.refl _ _)) _))
    have HE : Hid (Kd.R (Kd.int .u8) 5 ((World.drew w1).alloc (.cells #[] 5)) w.heap.size (fun _ => True) (.slice (some ⟨w1.heap.size, 0, none⟩) 0 0) []) := Lib.hid (R_empty _ w.heap.size w1.heap.size 0 #[] hb.size (blk_new (World.drew w1) _) rfl (by decide))
    have HL : Hid ((([] : List Int).length + p.length) * 1 ≤ 140737488355328) := Lib.hid (by simp; omega)
    have HU := Lib.hid hu
    have HP : Hid (x.drop 1 = p) := Lib.hid hp
    have hxi : (0 : Int) < (x.length : Int) := by omega
    have hxi1 : (1 : Int) ≤ (x.length : Int) := by omega
    have hxn : 0 < x.length := by omega
    clear hb hC hA' hC' hD hx0 ead hu hc' hp hi0 hsz HOP
    go_wp2_with fail
    refine start_ (n := 10) (S := fun w' => w'.cell? ad = some (.int .u8 u)) (ds := []) #[false, false, false, false, false, false, false, false, false, false] (by kernel_rfl) rfl rfl (HX.out _ (below_drew1 (Below.refl _ _))) (fun hHeld => ?_)
    refine pure_ (i := 0) (N := some 20) (v := ?_) (a' := ?_) #[true, false, false, false, false, false, false, false, false, false] rfl rfl (by kernel_rfl) (fun _ _ _ h => h) (Or.inl ⟨by rfl, ?_⟩) ?_ ?_
    rotate_left
    · intro w'
      go_simp
      with_reducible rfl
    rotate_left
    · simp only [Act.put, List.setIfInBounds_toArray, List.set_cons_zero, List.set_cons_succ, i64_w, i32_w]
      rfl
    refine pure_ (i := 1) (N := some 21) (v := ?_) (a' := ?_) #[true, true, false, false, false, false, false, false, false, false] rfl rfl (by kernel_rfl) (fun _ _ _ h => h) (Or.inl ⟨by rfl, ?_⟩) ?_ ?_
    rotate_left
    · intro w'
      go_simp
      with_reducible rfl
    rotate_left
    · simp only [Act.put, List.setIfInBounds_toArray, List.set_cons_zero, List.set_cons_succ, i64_w, i32_w]
      rfl
    refine pure_ (i := 4) (N := some 24) (v := ?_) (a' := ?_) #[true, true, false, false, true, false, false, false, false, false] rfl rfl (by kernel_rfl) (fun _ _ _ h => h) (Or.inl ⟨by rfl, ?_⟩) ?_ ?_
    rotate_left
    · intro w'
      go_simp
      with_reducible rfl
    rotate_left
    · simp only [Act.put, List.setIfInBounds_toArray, List.set_cons_zero, List.set_cons_succ, i64_w, i32_w]
      rfl
    refine pure_ (i := 5) (N := some 25) (v := ?_) (a' := ?_) #[true, true, false, false, true, true, false, false, false, false] rfl rfl (by kernel_rfl) (fun _ _ _ h => h) (Or.inl ⟨by rfl, ?_⟩) ?_ ?_
    rotate_left
    · intro w'
      go_simp
      with_reducible rfl
    rotate_left
    · simp only [Act.put, List.setIfInBounds_toArray, List.set_cons_zero, List.set_cons_succ, i64_w, i32_w]
      rfl
    refine take_ (i := 2) (N := some 22) (v := ?_) (a' := ?_) #[true, true, true, false, true, true, false, false, false, false] rfl rfl (by kernel_rfl) (fun _ _ _ h => h) (Or.inl ⟨by rfl, ?_⟩) hHeld ?_ ?_
    rotate_left
    · rintro w' s0
      go_simp
      with_reducible rfl
    rotate_left
    · simp only [Act.put, List.setIfInBounds_toArray, List.set_cons_zero, List.set_cons_succ, i64_w, i32_w]
      rfl
    refine one_ (i := 3) (N := some 23) #[true, true, true, true, true, true, false, false, false, false] rfl rfl (by kernel_rfl) (by decide) (fun K hK => ?_)
    have hsz3 := HB.out.size
    refine value_ (w1 := ?_) (v := ?_) (by rfl) rfl ?_ ?_
    rotate_left 2
    · go_simp
      constructor
      · rfl
      · rfl
    have hB3 : Below w.heap.size w ((World.drew w1).alloc (.cells #[] 5)) := below_alloc (below_drew HB.out) _
    refine hK.out _ _ (HX.out _ (below_alloc (below_drew1 (Below.refl _ _)) _)) (fun hHeld => ?_)
    clear hK K
    refine norm_ (a' := ?_) ?_ ?_
    rotate_left
    · show Act.put _ (some 23) _ = _
      simp only [Act.put, List.setIfInBounds_toArray, List.set_cons_zero, List.set_cons_succ, i64_w, i32_w]
      rfl
    refine one_ (i := 6) (N := some 26) #[true, true, true, true, true, true, true, false, false, false] rfl rfl (by kernel_rfl) (by decide) (fun K hK => ?_)
    refine Kd.R_append_rows_step (Kd.int .u8) (w0 := w) w.heap.size rfl (.tmp 23) (.tmp 25) 22 5 (.int .u8 0) 1 rfl Try.underlying22 infob5 rfl (by decide) (by omega) _ [] p _ _ _ (fun _ => True) (fun _ => False) rfl rfl HE.out HD.out (fun _ _ h => h) (fun _ h => h.elim) (fun _ _ => trivial) hB3 hB3.size HL.out ?_
    intro v4 w4 hR hB4 hG hA
    rw [List.nil_append] at hR
    obtain ⟨A4, c4, rfl⟩ := Kd.R_slice hR
    have HR4 := Lib.hid hR
    have HB4 := Lib.hid hB4
    have HX4 := HX.out w4 (below_fresh hG)
    clear hR hB4 hG hA
    refine hK.out _ _ (HX4) (fun hHeld => ?_)
    clear hK K
    refine norm_ (a' := ?_) ?_ ?_
    rotate_left
    · show Act.put _ (some 26) _ = _
      simp only [Act.put, List.setIfInBounds_toArray, List.set_cons_zero, List.set_cons_succ, i64_w, i32_w]
      rfl
    refine pure_ (i := 7) (N := some 2) (v := ?_) (a' := ?_) #[true, true, true, true, true, true, true, true, false, false] rfl rfl (by kernel_rfl) (fun _ _ _ h => h) (Or.inl ⟨by rfl, ?_⟩) ?_ ?_
    rotate_left
    · intro w'
      go_simp
      with_reducible rfl
    rotate_left
    · simp only [Act.put, List.setIfInBounds_toArray, List.set_cons_zero, List.set_cons_succ, i64_w, i32_w]
      rfl
    refine pure_ (i := 8) (N := some 3) (v := ?_) (a' := ?_) #[true, true, true, true, true, true, true, true, true, false] rfl rfl (by kernel_rfl) (fun _ _ _ h => h) (Or.inl ⟨by rfl, ?_⟩) ?_ ?_
    rotate_left
    · intro w'
      go_simp
      with_reducible rfl
    rotate_left
    · simp only [Act.put, List.setIfInBounds_toArray, List.set_cons_zero, List.set_cons_succ, i64_w, i32_w]
      rfl
    refine pure_ (i := 9) (N := some 4) (v := ?_) (a' := ?_) #[true, true, true, true, true, true, true, true, true, true] rfl rfl (by kernel_rfl) (fun _ _ _ h => h) (Or.inl ⟨by rfl, ?_⟩) ?_ ?_
    rotate_left
    · intro w'
      go_simp
      with_reducible rfl
    rotate_left
    · simp only [Act.put, List.setIfInBounds_toArray, List.set_cons_zero, List.set_cons_succ, i64_w, i32_w]
      rfl
    refine done_ (by kernel_rfl) ?_
    go_wp2_with fail
    go_ret3
    rw [HE0.out, HU.out, HP.out]
    exact ⟨A4, c4, rfl, (Kd.R_reads' HR4.out).2.1, (Kd.R_reads' HR4.out).2.2, HB4.out⟩
  · have e : getOf l = (0, [], 23) := by unfold getOf; rw [if_neg h1, if_neg h2, if_neg hs]
    have hc2 : ¬ (2 ≤ l.length ∧ sum l = 0) := fun h => hs h.2
    have ho := ropen_calls A c l [] false w (by omega) hb hr hc (if_neg hc2) (decide_eq_false hc2)
    have HE := Lib.hid e
    have HO := Lib.hid ho
    clear e ho hs hc2 hr hb
    go_enter Try.func11, Try.ntmps11
    go_wp2_with fail
    refine HO.out.mono ?_
    rintro e w1 ⟨B, d, rfl, _, _, hb⟩
    have HB := Lib.hid hb
    clear hb HO
    go_wp2_with fail
    go_ret3
    rw [HE.out]
    exact ⟨none, 0, rfl, Nat.le_refl _, Kd.C_nil _ _, HB.out⟩
end Go.Proofs.Ytafkabkoglbndaa
