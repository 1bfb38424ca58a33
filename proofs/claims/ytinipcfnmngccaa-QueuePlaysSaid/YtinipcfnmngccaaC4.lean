/- The law QueueNever, walked. -/
import Derived.Test.YtinipcfnmngccaaC3
namespace Go.Proofs.Ytinipcfnmngccaa
open Go.Conc Go.RowKit Go.Proofs.YtinipcfnmngccaaW.PrintWords Go.Proofs.YtinipcfnmngccaaW.PrintLast
set_option linter.unusedVariables false
set_option linter.unusedSimpArgs false
/-- What is known of ops that came in. -/
def OpsOk (l : List S29) : Prop := l.length ≤ maxLen ∧ ∀ x0 ∈ l, ((Lit.int .i64 x0.f0).wf = true) ∧ True ∧ ((Lit.int .i64 x0.f2).wf = true)
def many (b : Bool) (n : Nat) : List Bool := List.replicate n b
theorem many_length (b : Bool) (n : Nat) : (many b n).length = n := by simp [many]
theorem many_snoc (b : Bool) (n : Nat) : many b n ++ [b] = many b (n + 1) := by simp [many, List.replicate_succ']
theorem many_cons (b : Bool) (n : Nat) : many b (n + 1) = b :: many b n := by simp [many, List.replicate_succ]
theorem never_put (n a c : Nat) (u : Bool) (ha : a ≤ n) (hc : c ≤ n) : ∃ r a' c', qput n u u (many true a) (many false c) = (r, many true a', many false c') ∧ a' ≤ n ∧ c' ≤ n := by
  unfold qput
  cases u with
  | true =>
    by_cases h : a < n
    · exact ⟨true, a + 1, c, by simp [many_length, h, many_snoc], h, hc⟩
    · exact ⟨false, a, c, by simp [many_length, h], ha, hc⟩
  | false =>
    by_cases h : c < n
    · exact ⟨true, a, c + 1, by simp [many_length, h, many_snoc], ha, h⟩
    · exact ⟨false, a, c, by simp [many_length, h], ha, hc⟩
theorem never_take (n a c : Nat) (ha : a ≤ n) (hc : c ≤ n) : ∃ a' c', qtake false (many true a) (many false c) = (decide (0 < a), decide (0 < a + c), many true a', many false c') ∧ a' ≤ n ∧ c' ≤ n := by
  cases a with
  | succ a => exact ⟨a, c, by rw [many_cons]; simp [qtake]; omega, by omega, hc⟩
  | zero =>
    cases c with
    | succ c => exact ⟨0, c, by rw [many_cons]; simp [qtake, many], by omega, by omega⟩
    | zero => exact ⟨0, 0, by simp [qtake, many], by omega, by omega⟩
/-- What is known of an op's cells in every later world. -/
theorem op_keeps {w : World} {ad : Addr} {i : Nat} {x : S29} (h0 : w.cell? (ad.add (i * 3)) = some (.int .i64 x.f0)) (h1 : w.cell? ⟨(ad.add (i * 3)).block, (ad.add (i * 3)).off + 1, none⟩ = some (.bool x.f1)) (h2 : w.cell? ⟨(ad.add (i * 3)).block, (ad.add (i * 3)).off + 2, none⟩ = some (.int .i64 x.f2)) :
    ∀ w', Below w.heap.size w w' → w'.cell? (ad.add (i * 3)) = some (.int .i64 x.f0) ∧ w'.cell? ⟨(ad.add (i * 3)).block, (ad.add (i * 3)).off + 1, none⟩ = some (.bool x.f1) ∧ w'.cell? ⟨(ad.add (i * 3)).block, (ad.add (i * 3)).off + 2, none⟩ = some (.int .i64 x.f2) :=
  fun w' h => ⟨(h.cell (World.block_lt_of_cell? w _ h0)).trans h0, (h.cell (World.block_lt_of_cell? w _ h1)).trans h1, (h.cell (World.block_lt_of_cell? w _ h2)).trans h2⟩
set_option maxRecDepth 100000 in
set_option maxHeartbeats 4000000 in
theorem never_any (k : Int) (A : Option Addr) (c : Nat) (l : List S29) (w : World) (hk : (Lit.int .u8 k).wf = true) (hr : Kd.C k29 w A l.length l) (hc : l.length ≤ c) (_ : OpsOk l) :
    Calls Try.prog 5 #[.int .u8 k, .slice A l.length c] w fun e w' => e = .returned (.bool true) ∧ Below w.heap.size w w' := by
  have hkr : 0 ≤ k ∧ k ≤ 255 := by
    simp only [Lit.wf, IntKind.min, IntKind.max, IntKind.signed, IntKind.bits, Bool.and_eq_true, decide_eq_true_eq, Bool.false_eq_true, if_false] at hk
    omega
  clear hk
  obtain ⟨hk0, hk1⟩ := hkr
  obtain ⟨n, hn, hn0⟩ : ∃ n, room k = n ∧ n ≤ 64 := ⟨_, rfl, by unfold room; omega⟩
  have HN := Lib.hid hn
  have HR := Lib.hid hr
  clear hn hr
  go_enter Try.func5, Try.ntmps5
  go_wp2_with fail
  refine (head_any w).mono ?_
  rintro e w1 ⟨rfl, hb⟩
  have HB1 := Lib.hid hb
  clear hb
  go_wp2_with fail
  refine (new_bool k w1).mono ?_
  rintro e w2 ⟨q, b1, b2, rfl, hq, hb, hq0, hq1, hq2⟩
  rw [HN.out] at hq
  have HQ := Lib.hid hq
  have HB := Lib.hid (below_step HB1.out hb)
  replace hq1 : w.heap.size ≤ b1 := Nat.le_trans HB1.out.size hq1
  replace hq2 : w.heap.size ≤ b2 := Nat.le_trans HB1.out.size hq2
  clear hq hb HB1 hq0
  by_cases hl : (1000 : Int) < (l.length : Int)
  · have hl' : decide ((1000 : Int) < (l.length : Int)) = true := decide_eq_true hl
    clear hq1 hq2
    go_wp2_with fail
    go_ret
    exact ⟨rfl, HB.out⟩
  · have hl' : decide ((1000 : Int) < (l.length : Int)) = false := decide_eq_false hl
    have hln : l.length ≤ 1000 := by omega
    go_wp2_with fail
    go_loopw [7] (fun v7 wr => ∃ i a c' : Nat, i ≤ l.length ∧ a ≤ n ∧ c' ≤ n ∧ v7 = .int .i64 i ∧ Hid (IsQ 54 Value.bool wr q b1 b2 n (many true a) (many false c')) ∧ Hid (Below w.heap.size w wr)) (fun v _ => l.length - (intOf v).toNat)
    case atStart => exact ⟨0, 0, 0, by omega, by omega, by omega, rfl, Lib.hid HQ.out, HB⟩
    case round =>
      clear HQ HB
      obtain ⟨i, a, c', hi, ha, hc', rfl, hq, hb⟩ := hrel
      by_cases hlt : i < l.length
      · obtain ⟨ad, rfl, h0, h1, h2⟩ := at_T29 HR.out (i : Int) (by omega) (by omega)
        simp only [Int.toNat_natCast] at h0 h1 h2
        have hx := op_keeps h0 h1 h2
        clear h0 h1 h2
        generalize rd_T29 l i = x at hx
        obtain ⟨x0, u, x2⟩ := x
        have HX := Lib.hid hx
        obtain ⟨hx0, hx1, hx2⟩ := hx _ hb.out
        simp only at hx0 hx1 hx2
        clear hx
        by_cases h3 : x0 < 3
        · obtain ⟨r, a2, c2, hp, ha2, hc2⟩ := never_put n a c' u ha hc'
          have HP : Hid (Calls Try.prog 20 #[.pointer (some ⟨q, 0, none⟩), .bool u, .bool u] wr.drew fun e w' => e = .returned (.bool r) ∧ IsQ 54 Value.bool w' q b1 b2 n (many true a2) (many false c2) ∧ Only wr.drew w' b1 b2) := Lib.hid (putb_to (hq.out.drewN 1) hp)
          clear hp
          go_wp2_with fail
          refine start_ (n := 12) (S := fun w' => w'.cell? ⟨(ad.add (i * 3)).block, (ad.add (i * 3)).off + 1, none⟩ = some (.bool u)) (ds := []) #[false, false, false, false, false, false, false, false, false, false, false, false] (by kernel_rfl) rfl rfl ((HX.out _ (below_drew hb.out)).2.1) (fun hHeld => ?_)
          refine pure_ (i := 0) (N := some 40) (v := ?_) (a' := ?_) #[true, false, false, false, false, false, false, false, false, false, false, false] rfl rfl (by kernel_rfl) (fun _ _ _ h => h) (Or.inl ⟨by rfl, ?_⟩) ?_ ?_
          rotate_left
          · intro w'
            go_simp
            with_reducible rfl
          rotate_left
          · simp only [Act.put, List.setIfInBounds_toArray, List.set_cons_zero, List.set_cons_succ, i64_w, i32_w]
            rfl
          refine pure_ (i := 1) (N := some 41) (v := ?_) (a' := ?_) #[true, true, false, false, false, false, false, false, false, false, false, false] rfl rfl (by kernel_rfl) (fun _ _ _ h => h) (Or.inl ⟨by rfl, ?_⟩) ?_ ?_
          rotate_left
          · intro w'
            go_simp
            with_reducible rfl
          rotate_left
          · simp only [Act.put, List.setIfInBounds_toArray, List.set_cons_zero, List.set_cons_succ, i64_w, i32_w]
            rfl
          refine pure_ (i := 2) (N := some 42) (v := ?_) (a' := ?_) #[true, true, true, false, false, false, false, false, false, false, false, false] rfl rfl (by kernel_rfl) (fun _ _ _ h => h) (Or.inl ⟨by rfl, ?_⟩) ?_ ?_
          rotate_left
          · intro w'
            go_simp
            with_reducible rfl
          rotate_left
          · simp only [Act.put, List.setIfInBounds_toArray, List.set_cons_zero, List.set_cons_succ, i64_w, i32_w]
            rfl
          refine pure_ (i := 3) (N := some 43) (v := ?_) (a' := ?_) #[true, true, true, true, false, false, false, false, false, false, false, false] rfl rfl (by kernel_rfl) (fun _ _ _ h => h) (Or.inl ⟨by rfl, ?_⟩) ?_ ?_
          rotate_left
          · intro w'
            go_simp
            with_reducible rfl
          rotate_left
          · simp only [Act.put, List.setIfInBounds_toArray, List.set_cons_zero, List.set_cons_succ, i64_w, i32_w]
            rfl
          refine pure_ (i := 4) (N := some 44) (v := ?_) (a' := ?_) #[true, true, true, true, true, false, false, false, false, false, false, false] rfl rfl (by kernel_rfl) (fun _ _ _ h => h) (Or.inl ⟨by rfl, ?_⟩) ?_ ?_
          rotate_left
          · intro w'
            go_simp
            with_reducible rfl
          rotate_left
          · simp only [Act.put, List.setIfInBounds_toArray, List.set_cons_zero, List.set_cons_succ, i64_w, i32_w]
            rfl
          refine pure_ (i := 6) (N := some 46) (v := ?_) (a' := ?_) #[true, true, true, true, true, false, true, false, false, false, false, false] rfl rfl (by kernel_rfl) (fun _ _ _ h => h) (Or.inl ⟨by rfl, ?_⟩) ?_ ?_
          rotate_left
          · intro w'
            go_simp
            with_reducible rfl
          rotate_left
          · simp only [Act.put, List.setIfInBounds_toArray, List.set_cons_zero, List.set_cons_succ, i64_w, i32_w]
            rfl
          refine pure_ (i := 7) (N := some 47) (v := ?_) (a' := ?_) #[true, true, true, true, true, false, true, true, false, false, false, false] rfl rfl (by kernel_rfl) (fun _ _ _ h => h) (Or.inl ⟨by rfl, ?_⟩) ?_ ?_
          rotate_left
          · intro w'
            go_simp
            with_reducible rfl
          rotate_left
          · simp only [Act.put, List.setIfInBounds_toArray, List.set_cons_zero, List.set_cons_succ, i64_w, i32_w]
            rfl
          refine pure_ (i := 8) (N := some 48) (v := ?_) (a' := ?_) #[true, true, true, true, true, false, true, true, true, false, false, false] rfl rfl (by kernel_rfl) (fun _ _ _ h => h) (Or.inl ⟨by rfl, ?_⟩) ?_ ?_
          rotate_left
          · intro w'
            go_simp
            with_reducible rfl
          rotate_left
          · simp only [Act.put, List.setIfInBounds_toArray, List.set_cons_zero, List.set_cons_succ, i64_w, i32_w]
            rfl
          refine pure_ (i := 9) (N := some 49) (v := ?_) (a' := ?_) #[true, true, true, true, true, false, true, true, true, true, false, false] rfl rfl (by kernel_rfl) (fun _ _ _ h => h) (Or.inl ⟨by rfl, ?_⟩) ?_ ?_
          rotate_left
          · intro w'
            go_simp
            with_reducible rfl
          rotate_left
          · simp only [Act.put, List.setIfInBounds_toArray, List.set_cons_zero, List.set_cons_succ, i64_w, i32_w]
            rfl
          refine take_ (i := 5) (N := some 45) (v := ?_) (a' := ?_) #[true, true, true, true, true, true, true, true, true, true, false, false] rfl rfl (by kernel_rfl) (fun _ _ _ h => h) (Or.inl ⟨by rfl, ?_⟩) hHeld ?_ ?_
          rotate_left
          · rintro w' s0
            go_simp
            with_reducible rfl
          rotate_left
          · simp only [Act.put, List.setIfInBounds_toArray, List.set_cons_zero, List.set_cons_succ, i64_w, i32_w]
            rfl
          refine take_ (i := 10) (N := some 50) (v := ?_) (a' := ?_) #[true, true, true, true, true, true, true, true, true, true, true, false] rfl rfl (by kernel_rfl) (fun _ _ _ h => h) (Or.inl ⟨by rfl, ?_⟩) hHeld ?_ ?_
          rotate_left
          · rintro w' s0
            go_simp
            with_reducible rfl
          rotate_left
          · simp only [Act.put, List.setIfInBounds_toArray, List.set_cons_zero, List.set_cons_succ, i64_w, i32_w]
            rfl
          refine one_ (i := 11) (N := some 51) #[true, true, true, true, true, true, true, true, true, true, true, true] rfl rfl (by kernel_rfl) (by decide) (fun K hK => ?_)
          refine goes_ Try.func20 (by kernel_rfl) rfl #[.pointer (some ⟨q, 0, none⟩), .bool u, .bool u] (by rfl) rfl rfl (by simp only [List.map_toArray, List.map_cons, List.map_nil]; rfl) ?_
          with_reducible refine (HP.out).mono ?_
          rintro e w3 ⟨rfl, hq3, ho⟩
          refine ⟨_, rfl, ?_⟩
          have hB3 : Below w.heap.size w w3 := (below_drew hb.out).trans (ho.below hq1 hq2)
          have HQ3 := Lib.hid hq3
          clear hq3 ho
          refine hK.out _ _ ((HX.out _ hB3).2.1) (fun hHeld => ?_)
          clear hK K
          refine norm_ (a' := ?_) ?_ ?_
          rotate_left
          · show Act.put _ (some 51) _ = _
            simp only [Act.put, List.setIfInBounds_toArray, List.set_cons_zero, List.set_cons_succ, i64_w, i32_w]
            rfl
          refine done_ (by kernel_rfl) ?_
          go_wp2_with fail
          go_roundw
          case rel => exact ⟨i + 1, a2, c2, by omega, ha2, hc2, by go_num, HQ3, Lib.hid hB3⟩
          case measure => simp [intOf]; omega
        · obtain ⟨a2, c2, hp, ha2, hc2⟩ := never_take n a c' ha hc'
          go_wp2_with fail
          have hmn := many_bool q b1 b2 n (many true a) (many false c') wr hq.out
          rw [many_length, many_length] at hmn
          refine hmn.mono ?_
          rintro e w3 ⟨rfl, d, rfl⟩
          have HP := Lib.hid (takeb_to (hq.out.drewN d) hp)
          have HB2 := Lib.hid (below_drewN hb.out d)
          clear hp hmn
          go_wp2_with fail
          refine HP.out.mono ?_
          rintro e w3 ⟨rfl, hq3, ho⟩
          have HQ3 := Lib.hid hq3
          have HB3 := Lib.hid (HB2.out.trans (ho.below hq1 hq2))
          clear hq3 ho
          have hd1 : decide ((0 : Int) < (a : Int)) = decide (0 < a) := by simp
          have hd2 : decide ((0 : Int) < (a : Int) + (c' : Int)) = decide (0 < a + c') := by simp; omega
          by_cases ha0 : 0 < a
          · have e1 : decide (0 < a) = true := decide_eq_true ha0
            have e2 : decide (0 < a + c') = true := decide_eq_true (by omega)
            rw [e1] at hd1 ⊢
            rw [e2] at hd2 ⊢
            clear hx0 hx1 hx2
            go_wp2_with fail
            go_roundw
            case rel => exact ⟨i + 1, a2, c2, by omega, ha2, hc2, by go_num, HQ3, HB3⟩
            case measure => simp [intOf]; omega
          · have e1 : decide (0 < a) = false := decide_eq_false ha0
            obtain rfl : a = 0 := by omega
            by_cases hc0 : 0 < c'
            · have e2 : decide (0 < 0 + c') = true := decide_eq_true (by omega)
              rw [e1] at hd1 ⊢
              rw [e2] at hd2 ⊢
              clear hx0 hx1 hx2
              go_wp2_with fail
              go_roundw
              case rel => exact ⟨i + 1, a2, c2, by omega, ha2, hc2, by go_num, HQ3, HB3⟩
              case measure => simp [intOf]; omega
            · obtain rfl : c' = 0 := by omega
              clear hx0 hx1 hx2 hd1 hd2 e1
              go_wp2_with fail
              go_roundw
              case rel => exact ⟨i + 1, a2, c2, by omega, ha2, hc2, by go_num, HQ3, HB3⟩
              case measure => simp [intOf]; omega
      · obtain rfl : i = l.length := by omega
        go_wp2_with fail
        go_ret
        exact ⟨rfl, hb.out⟩
end Go.Proofs.Ytinipcfnmngccaa
