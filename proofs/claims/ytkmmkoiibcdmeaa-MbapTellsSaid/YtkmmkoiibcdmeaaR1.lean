/- The law MbapRest, walked. -/
import Derived.Test.YtkmmkoiibcdmeaaPureM
import Derived.Test.YtkmmkoiibcdmeaaH1
namespace Go.Proofs.Ytkmmkoiibcdmeaa
open Go.RowKit Go.Proofs.YtkmmkoiibcdmeaaW.PrintWords Go.Proofs.YtkmmkoiibcdmeaaW.PrintLast Go.Proofs.YtkmmkoiibcdmeaaW.PrintMore
set_option linter.unusedVariables false
set_option linter.unusedSimpArgs false
theorem str_of {w w' : World} {A : Option Addr} {c : Nat} {l : List Int} (h : Kd.C (Kd.int .u8) w A l.length l) (hb : Below w.heap.size w w') : (convert 22 9 (.slice A l.length c)).run Try.prog w' = .ok (.string (strOfNums l)) w' :=
  Kd.C_string (P := Try.prog) Try.underlying22 Try.underlying5 Try.underlying9 (Kd.C_below h hb)
theorem C_zero (w : World) (A : Option Addr) : Kd.C (Kd.int .u8) w A ([] : List Int).length [] := ⟨rfl, by decide, fun h => absurd h (by simp)⟩
theorem same_eq (id u : Int) (A : Option Addr) (c : Nat) (A' : Option Addr) (c' : Nat) (p : List Int) (w : World) (hr : Kd.C (Kd.int .u8) w A p.length p) (hc : p.length ≤ c) (hr' : Kd.C (Kd.int .u8) w A' p.length p) (hc' : p.length ≤ c') :
    Calls Try.prog 17 #[.agg #[.int .u16 id, .int .u8 u, .slice A p.length c], .agg #[.int .u16 id, .int .u8 u, .slice A' p.length c']] w fun e w' => e = .returned (.bool true) ∧ Below w.heap.size w w' :=
  QD.watchkeeperref03_Same.calls id u A c p id u A' c' p true w hr hc hr' hc' (by unfold QD.watchkeeperref03_Same.f; rw [if_pos rfl, if_pos rfl]; simp)
theorem same_nil (A : Option Addr) (c : Nat) (w : World) : Calls Try.prog 17 #[.agg #[.int .u16 0, .int .u8 0, .slice A 0 c], .agg #[.int .u16 0, .int .u8 0, .slice none 0 0]] w fun e w' => e = .returned (.bool true) ∧ Below w.heap.size w w' :=
  same_eq 0 0 A c none 0 [] w (C_zero _ _) (Nat.zero_le _) (Kd.C_nil _ _) (Nat.le_refl _)
theorem put_any (x : QD.S26) (h : Fine x) (A : Option Addr) (c : Nat) (w : World) (hr : Kd.C (Kd.int .u8) w A x.f2.length x.f2) (hc : x.f2.length ≤ c) :
    Calls Try.prog 15 #[.agg #[.int .u16 x.f0, .int .u8 x.f1, .slice A x.f2.length c]] w fun e w' => ∃ v, e = .returned v ∧ Kd.R (Kd.int .u8) 5 w' w.heap.size (fun _ => True) v (bytesOf x) ∧ Below w.heap.size w w' :=
  QD.mbap_Put.calls x.f0 x.f1 A c x.f2 (bytesOf x) w hr hc (put_fine h)
theorem take_flat {l : List QD.S26} {i : Nat} (h : i < l.length) : (l.take (i + 1)).flatMap bytesOf = (l.take i).flatMap bytesOf ++ bytesOf (QD.rd_T26 l (i : Int)) := by
  rw [List.take_succ_eq_append_getElem h, List.flatMap_append]
  unfold QD.rd_T26
  simp [List.getD_eq_getElem?_getD, List.getElem?_eq_getElem h]
theorem rd_mem {l : List QD.S26} {i : Nat} (h : i < l.length) : QD.rd_T26 l (i : Int) ∈ l := by
  unfold QD.rd_T26
  rw [Int.toNat_natCast, List.getD_eq_getElem?_getD, List.getElem?_eq_getElem h]
  exact List.getElem_mem h
theorem flat_le {l : List QD.S26} {b : List Int} {n : Nat} (h : l.flatMap bytesOf = b.take n) (i : Nat) : ((l.take i).flatMap bytesOf).length ≤ b.length := by
  have h1 : ((l.take i).flatMap bytesOf).length ≤ (l.flatMap bytesOf).length := by
    conv => rhs; rw [← List.take_append_drop i l, List.flatMap_append, List.length_append]
    omega
  rw [h, List.length_take] at h1
  omega
set_option maxRecDepth 100000 in
set_option maxHeartbeats 8000000 in
theorem rest_law (A0 : Option Addr) (c0 : Nat) (l0 : List Int) (w : World) (hr : Kd.C (Kd.int .u8) w A0 l0.length l0) (hc : l0.length ≤ c0) (hw : l0.length ≤ maxLen ∧ ∀ x ∈ l0, (Lit.int .u8 x).wf = true) :
    Calls Try.prog 7 #[.slice A0 l0.length c0] w fun e w' => e = .returned (.bool true) ∧ Below w.heap.size w w' := by
  have HR := Lib.hid hr
  have HBY := Lib.hid (bytes_wf hw.2)
  clear hr hw
  go_enter Try.func7, Try.ntmps7
  go_wp2_with fail
  refine (head_any _).mono ?_
  rintro e w1 ⟨rfl, hb⟩
  have HB1 := Lib.hid hb
  have HQ1 := Lib.hid (Kd.C_below HR.out hb)
  clear hb
  by_cases hl : 20000 < (l0.length : Int)
  · go_wp2_with fail
    go_ret
    exact ⟨rfl, HB1.out⟩
  · have hl2 : (l0.length : Int) ≤ 20000 := by omega
    have hld : decide (20000 < (l0.length : Int)) = false := decide_eq_false hl
    obtain ⟨xs, n, e0, hcuts, hco⟩ := cuts_of l0
    have hle := hcuts.le
    have hre := hcuts.rest HBY.out
    have hca := cut_any A0 c0 l0 w1 (by omega) HBY.out HQ1.out hc
    rw [hco] at hca
    have HCA := Lib.hid hca
    have HLE := Lib.hid hle
    have HRE := Lib.hid hre
    have hn0 : (0 : Int) ≤ (n : Int) := by omega
    have hn1 : (n : Int) ≤ (l0.length : Int) := by omega
    have hnd0 : decide ((n : Int) < 0) = false := decide_eq_false (by omega)
    have hnd1 : decide ((l0.length : Int) < (n : Int)) = false := decide_eq_false (by omega)
    have hnd2 : decide (l0.length < n) = false := decide_eq_false (by omega)
    clear hl hcuts hco hle hre hca
    go_wp2_with fail
    refine HCA.out.mono ?_
    rintro e w2 ⟨v, rfl, hs, hb⟩
    obtain ⟨A4, d4, rfl⟩ := Kd.S_slice hs
    have HB2 := Lib.hid (below_step HB1.out hb)
    have HS2 := Lib.hid (Kd.S_lower hs HB1.out.size)
    have HSC := Lib.hid (Kd.C_below HR.out HB2.out)
    clear hs hb HCA HQ1
    have hxl : (xs.length : Int) ≤ 20000 := by have := HLE.out; omega
    go_wp2_with fail
    go_loopg [7, 8] xs.length (fun kq v7 v8 w' => ∃ (i : Nat), v8 = .int .i64 (i : Int) ∧ Hid (i ≤ xs.length ∧ kq = xs.length - i) ∧ Hid (Kd.S QD.k26 26 w' w.heap.size (fun k_ => some k_ ≠ (v7 : Value).ownBlock) (.slice A4 xs.length d4) xs) ∧ Hid (Kd.R (Kd.int .u8) 5 w' w.heap.size (fun _ => True) v7 ((xs.take i).flatMap bytesOf)) ∧ Hid (Below w.heap.size w w'))
    case atStart => exact ⟨0, rfl, Lib.hid ⟨by omega, by omega⟩, Lib.hid (Kd.S_mono HS2.out (fun _ _ => by simp [Value.ownBlock])), Lib.hid (by simpa using Kd.R_nil _ _ _ _ _), HB2⟩
    case round =>
      clear HB2 HS2 HSC
      obtain ⟨i, rfl, HA, HS, HO, HB⟩ := hrel
      by_cases hi : (i : Int) < (xs.length : Int)
      · have hiN : i < xs.length := by omega
        have hFx := HRE.out.1 _ (rd_mem hiN)
        have hnext := take_flat hiN
        have hlen := flat_le HRE.out.2.1 (i + 1)
        rw [hnext] at hlen
        obtain ⟨ad, A5, c5, rfl, hx0, hx1, hx2, hcl, hC5⟩ := QD.at_T26 (Kd.S_reads' HS.out).2.2 (i : Int) (by omega) hi
        simp only [Int.toNat_natCast] at hx0 hx1 hx2
        obtain ⟨x, hx⟩ : ∃ x, QD.rd_T26 xs (i : Int) = x := ⟨_, rfl⟩
        obtain ⟨L, hL⟩ : ∃ L, (xs.take i).flatMap bytesOf = L := ⟨_, rfl⟩
        rw [hx] at hx0 hx1 hx2 hcl hC5 hFx hnext hlen
        rw [hL] at hnext hlen
        have HO := Lib.hid (by have := HO.out; rwa [hL] at this)
        have HP := Lib.hid (put_any x hFx A5 c5 _ hC5 hcl)
        have HNX := Lib.hid hnext
        have HLN : Hid ((L.length + (bytesOf x).length) * 1 ≤ 140737488355328) := Lib.hid (by rw [List.length_append] at hlen; omega)
        obtain ⟨u7', hu7⟩ : ∃ u7', u7' = u7 := ⟨_, rfl⟩
        subst hu7
        clear hC5 hFx hnext hlen hx hL hcl
        go_wp2_with fail
        refine HP.out.mono ?_
        rintro e w5 ⟨v5, rfl, ho, hb⟩
        obtain ⟨A6, d6, rfl⟩ := Kd.R_slice ho
        have HS5 := Lib.hid (Kd.S_elder' HS.out (Kd.R_base ho) hb)
        have HO5 := Lib.hid (Kd.R_elder' HO.out (Kd.R_base ho) hb)
        have HC5 := Lib.hid (Kd.R_reads' ho).2.2
        have HF5 : Hid (∀ k, w5.heap.size ≤ k → some k ≠ (Value.slice A6 (bytesOf x).length d6).ownBlock) := Lib.hid (fun k hk => Kd.fresh' (Kd.R_lt ho) k hk)
        have HB5 := Lib.hid (below_step HB.out hb)
        clear ho hb HS HO HB HP hx0 hx1 hx2
        go_wp2_with (at_builtin; refine Kd.R_append_rows (Kd.int .u8) (w0 := w) w.heap.size rfl (.tmp 37) (.tmp 42) 22 5 (.int .u8 0) 1 rfl Try.underlying22 infob rfl (by decide) (by omega) _ L (bytesOf x) A6 (bytesOf x).length d6 (fun k_ => some k_ ≠ (.slice A6 (bytesOf x).length d6 : Value).ownBlock) (fun _ => False) rfl rfl (Kd.R_mono HO5.out (fun _ hk => hk.2)) HC5.out (fun _ _ h => h) (fun _ h => h.elim) HF5.out HB5.out HB5.out.size HLN.out ?_; intro v6 w6 ho6 hb6 hg6 hat6; have HS6 := Lib.hid (Kd.S_after (ok := (fun k_ => some k_ ≠ (.slice A6 (bytesOf x).length d6 : Value).ownBlock)) (Kd.S_mono HS5.out (fun _ hk => ⟨hk.2, hk.1⟩)) hg6 hat6); have HO6 := Lib.hid ho6; have HB6 := Lib.hid hb6; clear ho6 hb6 hg6 hat6)
        go_roundg (xs.length - (i + 1))
        case measure => have := HA.out; omega
        case rel => exact ⟨i + 1, by go_num, Lib.hid ⟨by omega, rfl⟩, Lib.hid (Kd.S_mono HS6.out (fun _ hk => hk.2)), Lib.hid (by rw [HNX.out]; exact Kd.R_mono HO6.out (fun _ _ => trivial)), HB6⟩
      obtain rfl : i = xs.length := by have := HA.out; omega
      have hO := HO.out
      rw [List.take_length, HRE.out.2.1] at hO
      obtain ⟨T, hT⟩ : ∃ T, l0.take n = T := ⟨_, rfl⟩
      rw [hT] at hO
      have HT := Lib.hid hT
      have hnc : n ≤ c0 := Nat.le_trans HLE.out.1 hc
      clear hT
      obtain ⟨A7, d7, rfl⟩ := Kd.R_slice hO
      have HO7 := Lib.hid (Kd.R_reads' hO).2.2
      obtain ⟨i0, hi0, _, hsz0, _⟩ := info_parts infob
      obtain ⟨A8, hcut, hA8, hC8⟩ := print_drop_of (P := Try.prog) (Value.int .u8) 0 22 5 .i64 Try.underlying22 hi0 hsz0 A0 c0 l0 (n : Int) hn0 hn1 hc
      simp only [Int.toNat_natCast] at hcut hA8 hC8
      have hRB := Kd.C_below HR.out HB.out
      have hF := first_any A8 (c0 - n) (l0.drop n) wr (by rw [List.length_drop]; omega) (bytes_drop HBY.out n) (Kd.C_of_reads (h1 := fun _ => rfl) (hA8 _ (Kd.reads_of_C hRB))) hC8
      rw [HRE.out.2.2] at hF
      rw [List.length_drop] at hF
      have HF := Lib.hid hF
      have HRB := Lib.hid hRB
      clear hO hi0 hsz0 hA8 hC8 hRB hF HS HO hi hxl
      go_wp2_with fail
      refine HF.out.mono ?_
      rintro e w6 ⟨v6, rfl, ho, hb⟩
      simp only at ho
      obtain ⟨Ap, cp, rfl⟩ := Kd.R_slice ho
      have HB6 := Lib.hid (below_step HB.out hb)
      have HO8 := Lib.hid (Kd.C_below HO7.out hb)
      have HR8 := Lib.hid (Kd.C_below HRB.out hb)
      clear ho hb HO7 HRB hcut HF HB
      go_wp2_with fail
      have hbx := blk_new w6 (.cells #[.int .u16 0, .int .u8 0, .slice Ap 0 cp] 26)
      have hB7 := below_alloc HB6.out (.cells #[.int .u16 0, .int .u8 0, .slice Ap 0 cp] 26)
      have hO9 := Kd.C_alloc HO8.out (.cells #[.int .u16 0, .int .u8 0, .slice Ap 0 cp] 26)
      have hR9 := Kd.C_alloc HR8.out (.cells #[.int .u16 0, .int .u8 0, .slice Ap 0 cp] 26)
      obtain ⟨wb, hwb⟩ : ∃ wb, w6.alloc (.cells #[.int .u16 0, .int .u8 0, .slice Ap 0 cp] 26) = wb := ⟨_, rfl⟩
      obtain ⟨gb, hgb⟩ : ∃ gb, w6.heap.size = gb := ⟨_, rfl⟩
      rw [hwb] at hbx hB7 hO9 hR9 ⊢
      rw [hgb] at hbx ⊢
      have HB7 := Lib.hid hB7
      have HGB := Lib.hid (blk_lt hbx)
      have hb0 := (blk_cell hbx 0).trans (show _ = some (Value.int .u16 0) from rfl)
      have hb1 := (blk_cell hbx 1).trans (show _ = some (Value.int .u8 0) from rfl)
      have hb2 := (blk_cell hbx 2).trans (show _ = some (Value.slice Ap 0 cp) from rfl)
      have hHc0 := Lib.hid hb0
      have hHc1 := Lib.hid hb1
      have hHc2 := Lib.hid hb2
      have hln : T.length = n := by rw [← HT.out, List.length_take]; have := HLE.out; omega
      have hct := Kd.C_take hR9 (m := n) HLE.out.1
      rw [HT.out] at hct
      have HX : Hid ((∀ w', Below wb.heap.size wb w' → (convert 22 9 (.slice A7 T.length d7)).run Try.prog w' = .ok (.string (strOfNums T)) w') ∧ (∀ w', Below wb.heap.size wb w' → (convert 22 9 (.slice A0 n c0)).run Try.prog w' = .ok (.string (strOfNums T)) w')) := Lib.hid ⟨fun w' h => str_of hO9 h, fun w' h => by
        have := str_of (c := c0) hct h
        rwa [hln] at this⟩
      have hqq : ((strOfNums T).toList == (strOfNums T).toList) = true := by simp
      have hze : ∀ W, (zeroValue 26).run Try.prog W = .ok (.agg #[.int .u16 0, .int .u8 0, .slice none 0 0]) W := fun W => by kernel_rfl
      have hee : (e0 == e0) = true := by simp
      clear hwb hgb hbx hB7 hO9 hR9 hct hln HB6 HO8 HR8
      refine start_ (n := 25) (S := fun w' => (convert 22 9 (.slice A7 T.length d7)).run Try.prog w' = .ok (.string (strOfNums T)) w' ∧ (convert 22 9 (.slice A0 n c0)).run Try.prog w' = .ok (.string (strOfNums T)) w' ∧ w'.cell? ⟨gb, 0, none⟩ = some (.int .u16 0) ∧ w'.cell? ⟨gb, 1, none⟩ = some (.int .u8 0) ∧ w'.cell? ⟨gb, 2, none⟩ = some (.slice Ap 0 cp)) (ds := []) #[false, false, false, false, false, false, false, false, false, false, false, false, false, false, false, false, false, false, false, false, false, false, false, false, false] (by kernel_rfl) rfl rfl ⟨HX.out.1 _ (below_drew1 (Below.refl _ _)), HX.out.2 _ (below_drew1 (Below.refl _ _)), hb0, hb1, hb2⟩ (fun hHeld => ?_)
      refine pure_ (i := 0) (N := some 52) (v := ?_) (a' := ?_) #[true, false, false, false, false, false, false, false, false, false, false, false, false, false, false, false, false, false, false, false, false, false, false, false, false] rfl rfl (by kernel_rfl) (fun _ _ _ h => h) (Or.inl ⟨by rfl, ?_⟩) ?_ ?_
      rotate_left
      · intro w'
        go_simp
        with_reducible rfl
      rotate_left
      · simp only [Act.put, List.setIfInBounds_toArray, List.set_cons_zero, List.set_cons_succ, i64_w, i32_w]
        rfl
      refine pure_ (i := 1) (N := some 53) (v := ?_) (a' := ?_) #[true, true, false, false, false, false, false, false, false, false, false, false, false, false, false, false, false, false, false, false, false, false, false, false, false] rfl rfl (by kernel_rfl) (fun _ _ _ h => h) (Or.inl ⟨by rfl, ?_⟩) ?_ ?_
      rotate_left
      · intro w'
        go_simp
        with_reducible rfl
      rotate_left
      · simp only [Act.put, List.setIfInBounds_toArray, List.set_cons_zero, List.set_cons_succ, i64_w, i32_w]
        rfl
      refine pure_ (i := 2) (N := some 54) (v := ?_) (a' := ?_) #[true, true, true, false, false, false, false, false, false, false, false, false, false, false, false, false, false, false, false, false, false, false, false, false, false] rfl rfl (by kernel_rfl) (fun _ _ _ h => h) (Or.inl ⟨by rfl, ?_⟩) ?_ ?_
      rotate_left
      · intro w'
        go_simp
        with_reducible rfl
      rotate_left
      · simp only [Act.put, List.setIfInBounds_toArray, List.set_cons_zero, List.set_cons_succ, i64_w, i32_w]
        rfl
      refine pure_ (i := 4) (N := some 56) (v := ?_) (a' := ?_) #[true, true, true, false, true, false, false, false, false, false, false, false, false, false, false, false, false, false, false, false, false, false, false, false, false] rfl rfl (by kernel_rfl) (fun _ _ _ h => h) (Or.inl ⟨by rfl, ?_⟩) ?_ ?_
      rotate_left
      · intro w'
        go_simp
        with_reducible rfl
      rotate_left
      · simp only [Act.put, List.setIfInBounds_toArray, List.set_cons_zero, List.set_cons_succ, i64_w, i32_w]
        rfl
      refine pure_ (i := 5) (N := some 57) (v := ?_) (a' := ?_) #[true, true, true, false, true, true, false, false, false, false, false, false, false, false, false, false, false, false, false, false, false, false, false, false, false] rfl rfl (by kernel_rfl) (fun _ _ _ h => h) (Or.inl ⟨by rfl, ?_⟩) ?_ ?_
      rotate_left
      · intro w'
        go_simp
        with_reducible rfl
      rotate_left
      · simp only [Act.put, List.setIfInBounds_toArray, List.set_cons_zero, List.set_cons_succ, i64_w, i32_w]
        rfl
      refine pure_ (i := 6) (N := some 58) (v := ?_) (a' := ?_) #[true, true, true, false, true, true, true, false, false, false, false, false, false, false, false, false, false, false, false, false, false, false, false, false, false] rfl rfl (by kernel_rfl) (fun _ _ _ h => h) (Or.inl ⟨by rfl, ?_⟩) ?_ ?_
      rotate_left
      · intro w'
        go_simp
        with_reducible rfl
      rotate_left
      · simp only [Act.put, List.setIfInBounds_toArray, List.set_cons_zero, List.set_cons_succ, i64_w, i32_w]
        rfl
      refine take_ (i := 3) (N := some 55) (v := ?_) (a' := ?_) #[true, true, true, true, true, true, true, false, false, false, false, false, false, false, false, false, false, false, false, false, false, false, false, false, false] rfl rfl (by kernel_rfl) (fun _ _ _ h => h) (Or.inl ⟨by rfl, ?_⟩) hHeld ?_ ?_
      rotate_left
      · rintro w' ⟨s0, s1, s2, s3, s4⟩
        go_simp
        with_reducible rfl
      rotate_left
      · simp only [Act.put, List.setIfInBounds_toArray, List.set_cons_zero, List.set_cons_succ, i64_w, i32_w]
        rfl
      refine take_ (i := 7) (N := some 59) (v := ?_) (a' := ?_) #[true, true, true, true, true, true, true, true, false, false, false, false, false, false, false, false, false, false, false, false, false, false, false, false, false] rfl rfl (by kernel_rfl) (fun _ _ _ h => h) (Or.inl ⟨by rfl, ?_⟩) hHeld ?_ ?_
      rotate_left
      · rintro w' ⟨s0, s1, s2, s3, s4⟩
        go_simp
        with_reducible rfl
      rotate_left
      · simp only [Act.put, List.setIfInBounds_toArray, List.set_cons_zero, List.set_cons_succ, i64_w, i32_w]
        rfl
      refine pure_ (i := 8) (N := some 60) (v := ?_) (a' := ?_) #[true, true, true, true, true, true, true, true, true, false, false, false, false, false, false, false, false, false, false, false, false, false, false, false, false] rfl rfl (by kernel_rfl) (fun _ _ _ h => h) (Or.inl ⟨by rfl, ?_⟩) ?_ ?_
      rotate_left
      · intro w'
        go_simp
        with_reducible rfl
      rotate_left
      · simp only [Act.put, List.setIfInBounds_toArray, List.set_cons_zero, List.set_cons_succ, i64_w, i32_w]
        rfl
      refine pure_ (i := 9) (N := some 61) (v := ?_) (a' := ?_) #[true, true, true, true, true, true, true, true, true, true, false, false, false, false, false, false, false, false, false, false, false, false, false, false, false] rfl rfl (by kernel_rfl) (fun _ _ _ h => h) (Or.inl ⟨by rfl, ?_⟩) ?_ ?_
      rotate_left
      · intro w'
        go_simp
        with_reducible rfl
      rotate_left
      · simp only [Act.put, List.setIfInBounds_toArray, List.set_cons_zero, List.set_cons_succ, i64_w, i32_w]
        rfl
      refine pure_ (i := 10) (N := some 62) (v := ?_) (a' := ?_) #[true, true, true, true, true, true, true, true, true, true, true, false, false, false, false, false, false, false, false, false, false, false, false, false, false] rfl rfl (by kernel_rfl) (fun _ _ _ h => h) (Or.inl ⟨by rfl, ?_⟩) ?_ ?_
      rotate_left
      · intro w'
        go_simp
        with_reducible rfl
      rotate_left
      · simp only [Act.put, List.setIfInBounds_toArray, List.set_cons_zero, List.set_cons_succ, i64_w, i32_w]
        rfl
      refine pure_ (i := 11) (N := some 63) (v := ?_) (a' := ?_) #[true, true, true, true, true, true, true, true, true, true, true, true, false, false, false, false, false, false, false, false, false, false, false, false, false] rfl rfl (by kernel_rfl) (fun _ _ _ h => h) (Or.inl ⟨by rfl, ?_⟩) ?_ ?_
      rotate_left
      · intro w'
        go_simp
        with_reducible rfl
      rotate_left
      · simp only [Act.put, List.setIfInBounds_toArray, List.set_cons_zero, List.set_cons_succ, i64_w, i32_w]
        rfl
      refine pure_ (i := 12) (N := some 64) (v := ?_) (a' := ?_) #[true, true, true, true, true, true, true, true, true, true, true, true, true, false, false, false, false, false, false, false, false, false, false, false, false] rfl rfl (by kernel_rfl) (fun _ _ _ h => h) (Or.inl ⟨by rfl, ?_⟩) ?_ ?_
      rotate_left
      · intro w'
        go_simp
        with_reducible rfl
      rotate_left
      · simp only [Act.put, List.setIfInBounds_toArray, List.set_cons_zero, List.set_cons_succ, i64_w, i32_w]
        rfl
      refine pure_ (i := 13) (N := some 65) (v := ?_) (a' := ?_) #[true, true, true, true, true, true, true, true, true, true, true, true, true, true, false, false, false, false, false, false, false, false, false, false, false] rfl rfl (by kernel_rfl) (fun _ _ _ h => h) (Or.inl ⟨by rfl, ?_⟩) ?_ ?_
      rotate_left
      · intro w'
        go_simp
        with_reducible rfl
      rotate_left
      · simp only [Act.put, List.setIfInBounds_toArray, List.set_cons_zero, List.set_cons_succ, i64_w, i32_w]
        rfl
      refine pure_ (i := 14) (N := some 66) (v := ?_) (a' := ?_) #[true, true, true, true, true, true, true, true, true, true, true, true, true, true, true, false, false, false, false, false, false, false, false, false, false] rfl rfl (by kernel_rfl) (fun _ _ _ h => h) (Or.inl ⟨by rfl, ?_⟩) ?_ ?_
      rotate_left
      · intro w'
        go_simp
        with_reducible rfl
      rotate_left
      · simp only [Act.put, List.setIfInBounds_toArray, List.set_cons_zero, List.set_cons_succ, i64_w, i32_w]
        rfl
      refine pure_ (i := 16) (N := some 68) (v := ?_) (a' := ?_) #[true, true, true, true, true, true, true, true, true, true, true, true, true, true, true, false, true, false, false, false, false, false, false, false, false] rfl rfl (by kernel_rfl) (fun _ _ _ h => h) (Or.inl ⟨by rfl, ?_⟩) ?_ ?_
      rotate_left
      · intro w'
        go_simp
        with_reducible rfl
      rotate_left
      · simp only [Act.put, List.setIfInBounds_toArray, List.set_cons_zero, List.set_cons_succ, i64_w, i32_w]
        rfl
      refine take_ (i := 15) (N := some 67) (v := ?_) (a' := ?_) #[true, true, true, true, true, true, true, true, true, true, true, true, true, true, true, true, true, false, false, false, false, false, false, false, false] rfl rfl (by kernel_rfl) (fun _ _ _ h => h) (Or.inl ⟨by rfl, ?_⟩) hHeld ?_ ?_
      rotate_left
      · rintro w' ⟨s0, s1, s2, s3, s4⟩
        go_simp
        with_reducible rfl
      rotate_left
      · simp only [Act.put, List.setIfInBounds_toArray, List.set_cons_zero, List.set_cons_succ, i64_w, i32_w]
        rfl
      refine one_ (i := 17) (N := some 69) #[true, true, true, true, true, true, true, true, true, true, true, true, true, true, true, true, true, true, false, false, false, false, false, false, false] rfl rfl (by kernel_rfl) (by decide) (fun K hK => ?_)
      refine goes_ Try.func17 (by kernel_rfl) rfl #[.agg #[.int .u16 0, .int .u8 0, .slice Ap 0 cp], .agg #[.int .u16 0, .int .u8 0, .slice none 0 0]] (by rfl) rfl rfl (by simp only [List.map_toArray, List.map_cons, List.map_nil]; rfl) ?_
      with_reducible refine (same_nil Ap cp _).mono ?_
      rintro e w8 ⟨rfl, hb8⟩
      refine ⟨_, rfl, ?_⟩
      have hb8' := below_then (below_drew1 (Below.refl wb.heap.size wb)) (Nat.le_refl _) hb8
      refine hK.out _ _ (⟨HX.out.1 _ hb8', HX.out.2 _ hb8', (hb8'.cell (p := ⟨gb, 0, none⟩) HGB.out).trans hHc0.out, (hb8'.cell (p := ⟨gb, 1, none⟩) HGB.out).trans hHc1.out, (hb8'.cell (p := ⟨gb, 2, none⟩) HGB.out).trans hHc2.out⟩) (fun hHeld => ?_)
      clear hK K
      refine norm_ (a' := ?_) ?_ ?_
      rotate_left
      · show Act.put _ (some 69) _ = _
        simp only [Act.put, List.setIfInBounds_toArray, List.set_cons_zero, List.set_cons_succ, i64_w, i32_w]
        rfl
      refine pure_ (i := 18) (N := some 70) (v := ?_) (a' := ?_) #[true, true, true, true, true, true, true, true, true, true, true, true, true, true, true, true, true, true, true, false, false, false, false, false, false] rfl rfl (by kernel_rfl) (fun _ _ _ h => h) (Or.inl ⟨by rfl, ?_⟩) ?_ ?_
      rotate_left
      · intro w'
        go_simp
        with_reducible rfl
      rotate_left
      · simp only [Act.put, List.setIfInBounds_toArray, List.set_cons_zero, List.set_cons_succ, i64_w, i32_w]
        rfl
      refine pure_ (i := 19) (N := some 71) (v := ?_) (a' := ?_) #[true, true, true, true, true, true, true, true, true, true, true, true, true, true, true, true, true, true, true, true, false, false, false, false, false] rfl rfl (by kernel_rfl) (fun _ _ _ h => h) (Or.inl ⟨by rfl, ?_⟩) ?_ ?_
      rotate_left
      · intro w'
        go_simp
        with_reducible rfl
      rotate_left
      · simp only [Act.put, List.setIfInBounds_toArray, List.set_cons_zero, List.set_cons_succ, i64_w, i32_w]
        rfl
      refine pure_ (i := 20) (N := some 72) (v := ?_) (a' := ?_) #[true, true, true, true, true, true, true, true, true, true, true, true, true, true, true, true, true, true, true, true, true, false, false, false, false] rfl rfl (by kernel_rfl) (fun _ _ _ h => h) (Or.inl ⟨by rfl, ?_⟩) ?_ ?_
      rotate_left
      · intro w'
        go_simp
        with_reducible rfl
      rotate_left
      · simp only [Act.put, List.setIfInBounds_toArray, List.set_cons_zero, List.set_cons_succ, i64_w, i32_w]
        rfl
      refine pure_ (i := 21) (N := some 73) (v := ?_) (a' := ?_) #[true, true, true, true, true, true, true, true, true, true, true, true, true, true, true, true, true, true, true, true, true, true, false, false, false] rfl rfl (by kernel_rfl) (fun _ _ _ h => h) (Or.inl ⟨by rfl, ?_⟩) ?_ ?_
      rotate_left
      · intro w'
        go_simp
        with_reducible rfl
      rotate_left
      · simp only [Act.put, List.setIfInBounds_toArray, List.set_cons_zero, List.set_cons_succ, i64_w, i32_w]
        rfl
      refine pure_ (i := 22) (N := some 74) (v := ?_) (a' := ?_) #[true, true, true, true, true, true, true, true, true, true, true, true, true, true, true, true, true, true, true, true, true, true, true, false, false] rfl rfl (by kernel_rfl) (fun _ _ _ h => h) (Or.inl ⟨by rfl, ?_⟩) ?_ ?_
      rotate_left
      · intro w'
        go_simp
        with_reducible rfl
      rotate_left
      · simp only [Act.put, List.setIfInBounds_toArray, List.set_cons_zero, List.set_cons_succ, i64_w, i32_w]
        rfl
      refine pure_ (i := 23) (N := some 75) (v := ?_) (a' := ?_) #[true, true, true, true, true, true, true, true, true, true, true, true, true, true, true, true, true, true, true, true, true, true, true, true, false] rfl rfl (by kernel_rfl) (fun _ _ _ h => h) (Or.inl ⟨by rfl, ?_⟩) ?_ ?_
      rotate_left
      · intro w'
        go_simp
        with_reducible rfl
      rotate_left
      · simp only [Act.put, List.setIfInBounds_toArray, List.set_cons_zero, List.set_cons_succ, i64_w, i32_w]
        rfl
      refine pure_ (i := 24) (N := some 2) (v := ?_) (a' := ?_) #[true, true, true, true, true, true, true, true, true, true, true, true, true, true, true, true, true, true, true, true, true, true, true, true, true] rfl rfl (by kernel_rfl) (fun _ _ _ h => h) (Or.inl ⟨by rfl, ?_⟩) ?_ ?_
      rotate_left
      · intro w'
        go_simp
        with_reducible rfl
      rotate_left
      · simp only [Act.put, List.setIfInBounds_toArray, List.set_cons_zero, List.set_cons_succ, i64_w, i32_w]
        rfl
      refine done_ (by kernel_rfl) ?_
      go_wp2_with fail
      go_ret
      exact ⟨rfl, below_then HB7.out HB7.out.size hb8'⟩
end Go.Proofs.Ytkmmkoiibcdmeaa
