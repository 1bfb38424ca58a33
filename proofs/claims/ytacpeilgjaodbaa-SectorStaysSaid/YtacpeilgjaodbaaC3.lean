/- The law SectorStays, walked. -/
import Derived.Test.YtacpeilgjaodbaaGR
namespace Go.Proofs.Ytacpeilgjaodbaa
open Go.RowKit Go.Proofs.YtacpeilgjaodbaaW.PrintWords Go.Proofs.YtacpeilgjaodbaaW.PrintLast Go.Proofs.YtacpeilgjaodbaaW.PrintMore
attribute [local go_sem] max2_int min2_int max_two min_two
set_option linter.unusedVariables false
set_option linter.unusedSimpArgs false
/-- What the law says of the disk: four sectors; the last one holds b. -/
structure Sy (D : Dk) (b : List Int) : Prop where
  n : D.n = 4
  s3 : sect D 3 = padOf b
theorem sy_cut {D : Dk} {b : List Int} (h : Sy D b) (x y : Int) : Sy (cut D x y) b := by
  unfold cut
  split
  · exact ⟨h.n, h.s3⟩
  · exact h
theorem sy_boot {D : Dk} {b : List Int} (h : Sy D b) : Sy (boot D) b := ⟨h.n, h.s3⟩
theorem sy_write {D : Dk} {b : List Int} (h : Sy D b) (hl : D.rows.length = 64 * D.n) {i : Int} (hi : i ≠ 3) (x : List Int) : Sy (writeOf D i x).2 b := by
  obtain ⟨h1, h2⟩ := write_other D i x hl
  exact ⟨h1.trans h.n, (h2 3 (by omega)).trans h.s3⟩
theorem sy_first {b : List Int} (hb : b.length ≤ 64) : ∃ D, writeOf (new 4) 3 b = (0, D) ∧ Sy D b := by
  obtain ⟨D', e, h3, _, _, _, h7, _⟩ := write_fine (new 4) 3 b (by unfold new; simp; omega) rfl rfl (by omega) (by show (3 : Int) < ((manyOf 4 : Nat) : Int); decide) hb
  exact ⟨D', e, h3.trans (by decide), h7⟩
theorem sy_read {D : Dk} {b : List Int} (h : Sy D b) : readOf (boot D) 3 = (padOf b, 0) := by
  have := readOf_up (boot D) 3 rfl (by show 3 < D.n; rw [h.n]; omega)
  rw [show ((3 : Nat) : Int) = 3 from rfl] at this
  rw [this]
  exact Prod.ext h.s3 rfl
set_option maxRecDepth 100000 in
set_option maxHeartbeats 8000000 in
theorem stays_law (A : Option Addr) (c : Nat) (l : List QA.S31) (A2 : Option Addr) (c2 : Nat) (b0 : List Int) (w : World) (hr : Kd.C QA.k31 w A l.length l) (hc : l.length ≤ c)
    (hw : l.length ≤ maxLen ∧ ∀ x0 ∈ l, ((Lit.int .i64 x0.f0).wf = true) ∧ ((Lit.int .i64 x0.f1).wf = true) ∧ ((Lit.int .i64 x0.f2).wf = true) ∧ (x0.f3.length ≤ maxLen ∧ ∀ x1 ∈ x0.f3, (Lit.int .u8 x1).wf = true))
    (hr2 : Kd.C (Kd.int .u8) w A2 b0.length b0) (hc2 : b0.length ≤ c2) (hw2 : b0.length ≤ maxLen ∧ ∀ x1 ∈ b0, (Lit.int .u8 x1).wf = true) :
    Calls Try.prog 5 #[.slice A l.length c, .slice A2 b0.length c2] w fun e w' => e = .returned (.bool true) ∧ Below w.heap.size w w' := by
  have HR := Lib.hid hr
  have HR2 := Lib.hid hr2
  have HO := Lib.hid (ops_of hw)
  have HBY0 := Lib.hid (bytes_wf hw2.2)
  clear hr hw hr2 hw2
  go_enter Try.func5, Try.ntmps5
  go_wp2_with fail
  refine (head_any _).mono ?_
  rintro e w1 ⟨rfl, hb1⟩
  have HB1 := Lib.hid hb1
  have HQ := Lib.hid (Kd.C_below HR.out hb1)
  have HQ2 := Lib.hid (Kd.C_below HR2.out hb1)
  clear hb1 HR HR2
  go_wp2_with fail
  refine (new_any 4 w1).mono ?_
  rintro e w2 ⟨g, r, rfl, hd, hb⟩
  have HB2 := Lib.hid hb
  have HD2 := Lib.hid hd
  clear hb hd
  go_wp2_with fail
  refine (great_any A c l w2 (Kd.C_below HQ.out HB2.out) hc).mono ?_
  rintro e w3 ⟨r3, rfl, hgreat, hb⟩
  have HB3 := Lib.hid (below_then HB2.out HB2.out.size hb)
  have HD3 := Lib.hid (HD2.out.below hb)
  clear hb HD2 HB2
  cases r3 with
  | true =>
    clear hgreat
    go_wp2_with fail
    go_ret
    exact ⟨rfl, below_then HB1.out HB1.out.size HB3.out⟩
  | false =>
    have HG := Lib.hid (hgreat rfl)
    clear hgreat
    by_cases hb64 : 64 < b0.length
    · have hb64i : (64 : Int) < b0.length := by omega
      clear hb64
      go_wp2_with fail
      go_ret
      exact ⟨rfl, below_then HB1.out HB1.out.size HB3.out⟩
    have hb64i : (b0.length : Int) ≤ 64 := by omega
    have HBL := Lib.hid (show b0.length ≤ 64 by omega)
    obtain ⟨D0, he, hS0⟩ := sy_first HBL.out
    have HE := Lib.hid he
    have HS0 := Lib.hid hS0
    clear hb64 he hS0
    go_wp2_with fail
    refine (write_any w1.heap.size g r (new 4) 3 A2 c2 b0 w3 HD3.out HBY0.out (Kd.C_below HQ2.out HB3.out) _ HE.out).mono ?_
    rintro e w4 ⟨rfl, hd, hb, -⟩
    have HB4 := Lib.hid (HB3.out.trans hb)
    have HD4 : Hid (∃ D, IsDisk w4 w1.heap.size g r D ∧ Sy D b0) := Lib.hid ⟨_, hd, HS0.out⟩
    clear hb hd HB3 HD3 HE HS0
    go_wp2_with fail
    go_loopg [7] l.length (fun kq v7 w' => ∃ (i : Nat), v7 = .int .i64 (i : Int) ∧ Hid (i ≤ l.length ∧ kq = l.length - i) ∧ Hid (∃ D, IsDisk w' w1.heap.size g r D ∧ Sy D b0) ∧ Hid (Below w1.heap.size w1 w'))
    case atStart => exact ⟨0, rfl, Lib.hid ⟨by omega, by omega⟩, HD4, HB4⟩
    case round =>
      clear HD4 HB4
      obtain ⟨i, rfl, HA, HD, HB⟩ := hrel
      by_cases hi : (i : Int) < (l.length : Int)
      · have hiN : i < l.length := by omega
        have hl400 : l.length ≤ 400 := HG.out.1
        have HBY := Lib.hid (HO.out.byt i hiN)
        have H63 := Lib.hid (HO.out.at63 i hiN)
        obtain ⟨ad, A1, c1, rfl, hf0, hf1, hf2, hf3, hcl, hC1⟩ := QA.at_T31 (Kd.C_below HQ.out HB.out) (i : Int) (by omega) hi
        simp only [Int.toNat_natCast] at hf0 hf1 hf2 hf3
        obtain ⟨x, hx⟩ : ∃ x, QA.rd_T31 l (i : Int) = x := ⟨_, rfl⟩
        rw [hx] at hf0 hf1 hf2 hf3 hcl hC1 HBY H63
        obtain ⟨f, at_, nn, b⟩ := x
        simp only at hf0 hf1 hf2 hf3 hcl hC1 HBY H63
        have HC1 := Lib.hid hC1
        obtain ⟨D, hD, hS⟩ := HD.out
        have HDL := Lib.hid hD.len
        have HDD := Lib.hid (hD.below (below_alloc (Below.refl wr.heap.size wr) (.cells #[.int .i64 f, .int .i64 at_, .int .i64 nn, .slice A1 b.length c1] 31)))
        have HS := Lib.hid hS
        have HAL := Lib.hid (below_alloc HB.out (.cells #[.int .i64 f, .int .i64 at_, .int .i64 nn, .slice A1 b.length c1] 31))
        have HCB := Lib.hid (Kd.C_below HC1.out (below_alloc (Below.refl wr.heap.size wr) (.cells #[.int .i64 f, .int .i64 at_, .int .i64 nn, .slice A1 b.length c1] 31)))
        clear hD hS HD hC1 hx hcl HC1
        by_cases h3 : f = 3
        · subst h3
          go_wp2_with fail
          refine (cut_any w1.heap.size g r D at_ nn _ HDD.out H63.out).mono ?_
          rintro e w5 ⟨⟨v5, rfl⟩, hd, hb, -⟩
          have HB5 := Lib.hid (HAL.out.trans hb)
          have HDD5 := Lib.hid hd
          clear hb hd HDD HAL HB HCB hf0 hf1 hf2 hf3
          go_wp2_with fail
          go_roundg (l.length - (i + 1))
          case measure => have := HA.out; omega
          case rel => exact ⟨i + 1, by go_num, Lib.hid ⟨by omega, rfl⟩, Lib.hid ⟨_, HDD5.out, sy_cut HS.out _ _⟩, HB5⟩
        have hf3' : (f == 3) = false := beq_eq_false_iff_ne.mpr h3
        by_cases h4 : f = 4
        · subst h4
          clear hf3'
          go_wp2_with fail
          refine (boot_any w1.heap.size g r D _ HDD.out).mono ?_
          rintro e w5 ⟨⟨v5, rfl⟩, hd, hb, -⟩
          have HB5 := Lib.hid (HAL.out.trans hb)
          have HDD5 := Lib.hid hd
          clear hb hd HDD HAL HB HCB hf0 hf1 hf2 hf3
          go_wp2_with fail
          go_roundg (l.length - (i + 1))
          case measure => have := HA.out; omega
          case rel => exact ⟨i + 1, by go_num, Lib.hid ⟨by omega, rfl⟩, Lib.hid ⟨_, HDD5.out, sy_boot HS.out⟩, HB5⟩
        have hf4' : (f == 4) = false := beq_eq_false_iff_ne.mpr h4
        by_cases h5 : at_ = 3
        · subst h5
          go_wp2_with fail
          go_roundg (l.length - (i + 1))
          case measure => have := HA.out; omega
          case rel => exact ⟨i + 1, by go_num, Lib.hid ⟨by omega, rfl⟩, Lib.hid ⟨_, HDD.out, HS.out⟩, HAL⟩
        have hf5' : (at_ != 3) = true := bne_iff_ne.mpr h5
        have HNE := Lib.hid h5
        clear h3 h4 h5
        go_wp2_with fail
        refine (write_any w1.heap.size g r D at_ A1 c1 b _ HDD.out HBY.out HCB.out _ rfl).mono ?_
        rintro e w5 ⟨rfl, hd, hb, -⟩
        have HB5 := Lib.hid (HAL.out.trans hb)
        have HDD5 := Lib.hid hd
        clear hb hd HDD HAL HB HCB hf0 hf1 hf2 hf3
        go_wp2_with fail
        go_roundg (l.length - (i + 1))
        case measure => have := HA.out; omega
        case rel => exact ⟨i + 1, by go_num, Lib.hid ⟨by omega, rfl⟩, Lib.hid ⟨_, HDD5.out, sy_write HS.out HDL.out HNE.out _⟩, HB5⟩
      · have HB' := HB
        obtain ⟨D, hD, hS⟩ := HD.out
        have HDD := Lib.hid hD
        have HS := Lib.hid hS
        have hl64 : (padOf b0).length = 64 := padOf_len HBL.out
        have htk : (padOf b0).take b0.length = b0 := take_pad b0 HBL.out
        have HL64 := Lib.hid hl64
        have HTK := Lib.hid htk
        clear HD hD hS HG HO HQ hl64 htk
        go_wp2_with fail
        refine (boot_any w1.heap.size g r D wr HDD.out).mono ?_
        rintro e w5 ⟨⟨v5, rfl⟩, hd, hb, -⟩
        have HB5 := Lib.hid (HB'.out.trans hb)
        have HDD5 := Lib.hid hd
        clear hb hd HDD HB HB'
        go_wp2_with fail
        refine (read_any w1.heap.size g r (boot D) 3 w5 HDD5.out _ (sy_read HS.out)).mono ?_
        rintro e w6 ⟨A6, d6, rfl, hd6, hc6, hb⟩
        have HB6 := Lib.hid (below_then HB5.out HB5.out.size hb)
        have HDD6 := Lib.hid (HDD5.out.below hb)
        have hct := Kd.C_take hc6 (m := b0.length) (by rw [HL64.out]; exact HBL.out)
        rw [HTK.out] at hct
        have hcv1 : ∀ m : Nat, (convert 29 9 (.slice A6 b0.length d6)).run Try.prog (w6.drewN m) = .ok (.string (strOfNums b0)) (w6.drewN m) := fun m => str_of hct (below_drewN (Below.refl _ _) m)
        have hcv2 : ∀ m : Nat, (convert 29 9 (.slice A2 b0.length c2)).run Try.prog (w6.drewN m) = .ok (.string (strOfNums b0)) (w6.drewN m) := fun m => str_of HQ2.out (below_drewN HB6.out m)
        have hq2 : ((strOfNums b0).toList == (strOfNums b0).toList) = true := by simp
        have hxe : (((padOf b0).length : Int) == 64) = true := by rw [HL64.out]; rfl
        have hd6' : b0.length ≤ d6 := by have : (padOf b0).length ≤ d6 := hd6; have := HL64.out; omega
        have hn4 : (boot D).n = 4 := HS.out.n
        have HN4 := Lib.hid hn4
        have HM : Hid (∀ m : Nat, Calls Try.prog 24 #[.pointer (some ⟨g, 0, none⟩)] (w6.drewN m) fun e w' => e = .returned (.int .i64 4) ∧ w' = w6.drewN m) := Lib.hid fun m => (many_any w1.heap.size g r (boot D) _ (HDD6.out.below (below_drewN (Below.refl _ _) _))).mono (by
          rintro e w' ⟨rfl, rfl⟩
          rw [hn4]
          exact ⟨rfl, rfl⟩)
        clear hb hc6 hct HB5 HDD5 hn4 hd6
        go_wp2_with fail
        go_quiet ((go_at_call 24; exact Calls.quiet_of_same (HM.out _)))
        go_wp2_with fail
        go_ret
        exact ⟨rfl, below_then HB1.out HB1.out.size (below_drewN HB6.out _)⟩
end Go.Proofs.Ytacpeilgjaodbaa
