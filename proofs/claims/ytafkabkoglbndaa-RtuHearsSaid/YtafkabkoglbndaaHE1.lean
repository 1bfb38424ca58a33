/- The law RtuHears, walked. -/
import Derived.Test.YtafkabkoglbndaaE3
namespace Go.Proofs.Ytafkabkoglbndaa
open Go.RowKit Go.Proofs.YtafkabkoglbndaaW.PrintWords Go.Proofs.YtafkabkoglbndaaW.PrintLast Go.Proofs.YtafkabkoglbndaaW.PrintMore
set_option linter.unusedVariables false
set_option linter.unusedSimpArgs false
theorem great_l (xs : List QD.S36) : ∀ (m i : Nat) (n : Int), i + m = xs.length → (xs.length : Int) ≤ n → (n < 20000 → ∀ j, j < i → (QD.rd_T36 xs (j : Nat)).f1.length < 20000) →
    ∃ k r, QD.watchkeeperlaw02_great.l0 k xs n (i : Nat) = some r ∧ (r = false → xs.length < 20000 ∧ ∀ j, j < xs.length → (QD.rd_T36 xs (j : Nat)).f1.length < 20000) := by
  intro m
  induction m with
  | zero =>
    intro i n hi hn hj
    refine ⟨0 + 1, decide (n ≥ 20000), ?_, fun h => ?_⟩
    · rw [QD.watchkeeperlaw02_great.l0, if_neg (by omega)]
    · have := of_decide_eq_false h
      exact ⟨by omega, fun j h2 => hj (by omega) j (by omega)⟩
  | succ m ih =>
    intro i n hi hn hj
    by_cases h2 : n < 20000
    · obtain ⟨b, hb⟩ : ∃ b, (QD.rd_T36 xs (i : Nat)).f1.length = b := ⟨_, rfl⟩
      have hmn : mn (b : Int) 20000 = (min b 20000 : Nat) := by unfold mn; split <;> omega
      obtain ⟨k, r, h, hr⟩ := ih (i + 1) (n + (min b 20000 : Nat)) (by omega) (by omega) (fun h3 j hj2 => by
        by_cases e : j = i
        · subst e; rw [hb]; omega
        · exact hj h2 j (by omega))
      refine ⟨k + 1, r, ?_, hr⟩
      have w1 : wrap64 (n + (min b 20000 : Nat)) = n + (min b 20000 : Nat) := by unfold wrap64; omega
      have w2 : wrap64 ((i : Int) + 1) = ((i + 1 : Nat) : Int) := by clear w1; unfold wrap64; omega
      rw [QD.watchkeeperlaw02_great.l0, if_pos (by clear w1 w2; omega), if_pos h2, if_pos (by clear w1 w2; omega), hb, hmn, w1, w2]
      exact h
    · refine ⟨0 + 1, decide (n ≥ 20000), ?_, fun h => absurd (of_decide_eq_false h) (by omega)⟩
      rw [QD.watchkeeperlaw02_great.l0, if_pos (by omega), if_neg h2]
theorem great_any (A : Option Addr) (c : Nat) (xs : List QD.S36) (w : World) (hr : Kd.C QD.k36 w A xs.length xs) (hc : xs.length ≤ c) :
    Calls Try.prog 16 #[.slice A xs.length c] w fun e w' => ∃ r, e = .returned (.bool r) ∧ (r = false → xs.length < 20000 ∧ ∀ j, j < xs.length → (QD.rd_T36 xs (j : Nat)).f1.length < 20000) ∧ Below w.heap.size w w' := by
  obtain ⟨k, r, h, hr2⟩ := great_l xs xs.length 0 (xs.length : Int) (by omega) (by omega) (fun _ j hj => absurd hj (by omega))
  refine (QD.watchkeeperlaw02_great.calls k A c xs r w hr hc h).mono ?_
  rintro e w' ⟨rfl, hb⟩
  exact ⟨r, rfl, hr2, hb⟩
theorem sil_same (l : List Int) : silOf (l.take 257) = silOf l := by
  by_cases h : l.length = 0
  · rw [List.length_eq_zero_iff.mp h]; rfl
  · rw [sil_of l (by omega)]
    unfold silOf
    rw [if_neg (fun e => h (by rw [e]; rfl))]
theorem hears_all {row hs b : List Int} {k : Nat} (hl : row.length = 257) (h1 : row.take k = hs.take 257) (h2 : k = min hs.length 257) :
    (hears row k b).take (k + takes k b) = (hs ++ b).take 257 ∧ k + takes k b = min (hs ++ b).length 257 := by
  have e1 : (hs ++ b).take hs.length = hs := by simp
  have e2 : ((hs ++ b).drop hs.length).take b.length = b := by simp
  have h := hears_piece (row := row) (b := hs ++ b) (k := k) (t := hs.length) (n := b.length) hl (by rw [e1]; exact h1) h2 (by rw [List.length_append]; exact Nat.le_refl _)
  rw [e2, ← List.length_append, List.take_length] at h
  exact h
/-- What both ears have heard. -/
structure Both (w : World) (gx gr : Nat) (hs : List Int) : Prop where
  ref : IsRef w gr gx hs
  ear : ∃ row k, IsEar w gx row k ∧ row.take k = hs.take 257 ∧ k = min hs.length 257
  byt : Bytes hs
theorem grow_len {i n b : Nat} (h1 : n ≤ i * 20000) (h2 : b < 20000) : n + b ≤ (i + 1) * 20000 := by omega
theorem grow_max {i n b L : Nat} (h1 : n ≤ i * 20000) (h2 : b < 20000) (h3 : i < L) (h4 : L < 20000) : n + b < 1000000000 := by
  have : i * 20000 ≤ 20000 * 20000 := Nat.mul_le_mul_right _ (by omega)
  omega
set_option maxRecDepth 100000 in
set_option maxHeartbeats 8000000 in
theorem hears_any (A : Option Addr) (c : Nat) (l : List QD.S36) (w : World) (hr : Kd.C QD.k36 w A l.length l) (hc : l.length ≤ c)
    (hw : l.length ≤ maxLen ∧ ∀ x0 ∈ l, ((Lit.int .i64 x0.f0).wf = true) ∧ (x0.f1.length ≤ maxLen ∧ ∀ x1 ∈ x0.f1, (Lit.int .u8 x1).wf = true)) :
    Calls Try.prog 5 #[.slice A l.length c] w fun e w' => e = .returned (.bool true) ∧ Below w.heap.size w w' := by
  have HR := Lib.hid hr
  have HBY : Hid (∀ i, i < l.length → Bytes (QD.rd_T36 l ((i : Nat) : Int)).f1) := Lib.hid (fun i hi => by
    have e : QD.rd_T36 l ((i : Nat) : Int) = l[i] := by unfold QD.rd_T36; simp [List.getD_eq_getElem?_getD, List.getElem?_eq_getElem hi]
    rw [e]
    exact bytes_wf (hw.2 _ (List.getElem_mem hi)).2.2)
  clear hr hw
  go_enter Try.func5, Try.ntmps5
  go_wp2_with fail
  refine (head_any _).mono ?_
  rintro e w1 ⟨rfl, hb1⟩
  have HB1 := Lib.hid hb1
  have HQ := Lib.hid (Kd.C_below HR.out hb1)
  clear hb1 HR
  go_wp2_with fail
  refine (new_any w1).mono ?_
  rintro e x2 ⟨gx, rfl, hgx, hear, hb⟩
  have hwg : w.heap.size ≤ gx := Nat.le_trans HB1.out.size hgx
  have HB2 := Lib.hid (below_step HB1.out hb)
  have HX2 := Lib.hid hb
  have HE2 := Lib.hid hear
  have hgs : gx < x2.heap.size := blk_lt hear.blk
  clear hb hear
  go_wp2_with fail
  refine (rnew_any x2).mono ?_
  rintro e x3 ⟨gr, rfl, hgr, hblk, hb⟩
  have hne : gr ≠ gx := by omega
  have hwr : w.heap.size ≤ gr := by omega
  have hw1r : w1.heap.size ≤ gr := by omega
  have HB3 := Lib.hid (below_step HB2.out hb)
  have HX3 := Lib.hid (below_step HX2.out hb)
  have HH : Hid (Both x3 gx gr []) := Lib.hid ⟨⟨⟨none, 0, hblk, Nat.le_refl _, Kd.C_nil _ _, Or.inl rfl⟩, hne⟩, ⟨_, _, HE2.out.below hb, by simp, by simp⟩, fun x hx => by cases hx⟩
  clear hblk hb HE2 HB2 HX2 hgs hgr
  go_wp2_with fail
  refine (great_any A c l x3 (Kd.C_below HQ.out HX3.out) hc).mono ?_
  rintro e x4 ⟨r, rfl, hgreat, hb⟩
  have HB4 := Lib.hid (below_step HB3.out hb)
  have HX4 := Lib.hid (below_step HX3.out hb)
  have HH4 : Hid (Both x4 gx gr []) := Lib.hid ⟨HH.out.ref.below hb, (by obtain ⟨row, k, h1, h2, h3⟩ := HH.out.ear; exact ⟨row, k, h1.below hb, h2, h3⟩), HH.out.byt⟩
  clear hb HB3 HX3 HH
  cases r with
  | true =>
    clear hgreat
    go_wp2_with fail
    go_ret
    exact ⟨rfl, HB4.out⟩
  | false =>
    have HG := Lib.hid (hgreat rfl)
    clear hgreat
    go_wp2_with fail
    go_loopg [6] l.length (fun kq v6 w' => ∃ (i : Nat) (hs : List Int), v6 = .int .i64 (i : Int) ∧ Hid (i ≤ l.length ∧ kq = l.length - i ∧ hs.length ≤ i * 20000) ∧ Hid (Both w' gx gr hs) ∧ Hid (Below w.heap.size w w') ∧ Hid (Below w1.heap.size w1 w'))
    case atStart => exact ⟨0, [], rfl, Lib.hid ⟨by omega, by omega, by simp⟩, HH4, HB4, HX4⟩
    case round =>
      clear HH4 HB4 HX4 HB1
      obtain ⟨i, hs, rfl, HA, HH, HB, HX⟩ := hrel
      by_cases hi : (i : Int) < (l.length : Int)
      · obtain ⟨ad, A1, c1, rfl, hf0, hf1, hcl, hC1⟩ := QD.at_T36 (Kd.C_below HQ.out HX.out) (i : Int) (by omega) hi
        have hiN : i < l.length := by omega
        have hi2 : i < 20000 := by have := HG.out.1; omega
        simp only [Int.toNat_natCast] at hf0 hf1
        have HBB := Lib.hid (HBY.out i hiN)
        have HL := Lib.hid (HG.out.2 i hiN)
        have HC1 := Lib.hid hC1
        obtain ⟨x, hx⟩ : ∃ x, QD.rd_T36 l (i : Int) = x := ⟨_, rfl⟩
        rw [hx] at hf0 hf1 HBB HL HC1 hcl
        obtain ⟨f, b⟩ := x
        simp only at hf0 hf1 HBB HL HC1 hcl
        have HXX := Lib.hid hx
        clear hC1 hx
        obtain ⟨row, k, hear, htk, hk⟩ := HH.out.ear
        by_cases h2 : f = 2
        · subst h2
          obtain ⟨r, hr⟩ : ∃ r, silOf hs = r := ⟨_, rfl⟩
          obtain ⟨u, p, e0, o⟩ := r
          have HS := Lib.hid hr
          have HS1 := Lib.hid (show silOf (row.take k) = (u, p, e0, o) by rw [htk, sil_same, hr])
          have HE := Lib.hid hear
          have HRF := Lib.hid HH.out.ref
          have HBH := Lib.hid HH.out.byt
          clear hr hear htk hk HL HBB HC1 hcl HH HXX
          go_wp2_with fail
          refine (sil_any gx row k wr HE.out u p e0 o HS1.out).mono ?_
          rintro e x5 ⟨B5, d5, rfl, hd5, hc5, hear5, hk5⟩
          have HB5 := Lib.hid (HB.out.trans (hk5.below hwg HB.out.size))
          have HX5 := Lib.hid (HX.out.trans (hk5.below hgx HX.out.size))
          have HR5 := Lib.hid (HRF.out.kx hk5)
          have HE5 := Lib.hid hear5
          have HC5 := Lib.hid hc5
          clear hk5 hear5 hc5 HB HX HRF HE hf0 hf1
          go_wp2_with fail
          refine (rsil_any gr gx hs x5 HBH.out HR5.out u p e0 o HS.out).mono ?_
          rintro e x6 ⟨B6, d6, rfl, hd6, hc6, href6, hk6⟩
          have HB6 := Lib.hid (HB5.out.trans (hk6.below hwr HB5.out.size))
          have HX6 := Lib.hid (HX5.out.trans (hk6.below hw1r HX5.out.size))
          have HE6 := Lib.hid (HE5.out.kr hk6 hne)
          have HR6 := Lib.hid href6
          obtain ⟨A9, c9, hblk9, _⟩ := HR5.out.ex
          have hcv1 : (convert 22 9 (.slice B5 p.length d5)).run Try.prog x6 = .ok (.string (strOfNums p)) x6 := str_of (C_kr hblk9 HC5.out hk6) (Below.refl _ _)
          have hcv2 : (convert 22 9 (.slice B6 p.length d6)).run Try.prog x6 = .ok (.string (strOfNums p)) x6 := str_of hc6 (Below.refl _ _)
          have hq1 : (u != u) = false := by simp
          have hq2 : ((strOfNums p).toList != (strOfNums p).toList) = false := by simp
          have hq3 : (e0 != e0) = false := by simp
          have hq4 : (o != o) = false := by simp
          clear hblk9 hc6 href6 hk6 HB5 HX5 HE5 HR5 HC5
          go_wp2_with fail
          refine (many_any gx row 0 x6 HE6.out).mono ?_
          rintro e x7 ⟨rfl, rfl⟩
          go_wp2_with fail
          refine (rmany_any gr gx [] x6 HR6.out).mono ?_
          rintro e x8 ⟨rfl, rfl⟩
          clear hcv1 hcv2
          go_wp2_with fail
          go_roundg (l.length - (i + 1))
          case measure => have := HA.out; omega
          case rel => exact ⟨i + 1, [], by go_num, Lib.hid ⟨by omega, rfl, by simp⟩, Lib.hid ⟨HR6.out, ⟨row, 0, HE6.out, by simp, by simp⟩, fun x hx => by cases hx⟩, HB6, HX6⟩
        · have hf2 : (f == 2) = false := beq_eq_false_iff_ne.mpr h2
          have hall := hears_all (b := b) hear.len htk hk
          obtain ⟨q, hq⟩ : ∃ q, k + takes k b = q := ⟨_, rfl⟩
          rw [hq] at hall
          have HALL := Lib.hid hall
          have HQQ := Lib.hid hq
          have HE := Lib.hid hear
          have HRF := Lib.hid HH.out.ref
          have HBH := Lib.hid HH.out.byt
          clear hear htk hk hall hq HH
          go_wp2_with fail
          refine (hear_any gx row k A1 c1 b wr HBB.out HE.out HC1.out).mono ?_
          rintro e x5 ⟨⟨v5, rfl⟩, hear5, hk5⟩
          rw [HQQ.out] at hear5
          have HB5 := Lib.hid (HB.out.trans (hk5.below hwg HB.out.size))
          have HX5 := Lib.hid (HX.out.trans (hk5.below hgx HX.out.size))
          have HR5 := Lib.hid (HRF.out.kx hk5)
          have HE5 := Lib.hid hear5
          obtain ⟨ad', A2, c2, e', hg0, hg1, hcl2, hC2⟩ := QD.at_T36 (Kd.C_below HQ.out HX5.out) (i : Int) (by omega) hi
          injection e' with e'
          subst e'
          simp only [Int.toNat_natCast] at hg0 hg1
          rw [HXX.out] at hg0 hg1 hcl2 hC2
          simp only at hg0 hg1 hcl2 hC2
          have HC2 := Lib.hid hC2
          clear hk5 hear5 HB HX HRF HE hf0 hf1 hC2 hg0 HC1
          go_wp2_with fail
          refine (rhear_any gr gx hs A2 c2 b x5 HR5.out (blk_lt HE5.out.blk) HC2.out (grow_max HA.out.2.2 HL.out hiN HG.out.1)).mono ?_
          rintro e x6 ⟨⟨v6, rfl⟩, href6, hk6⟩
          have HB6 := Lib.hid (HB5.out.trans (hk6.below hwr HB5.out.size))
          have HX6 := Lib.hid (HX5.out.trans (hk6.below hw1r HX5.out.size))
          have HE6 := Lib.hid (HE5.out.kr hk6 hne)
          have HR6 := Lib.hid href6
          have hqq : ((q : Int) != (q : Int)) = false := by simp
          clear href6 hk6 HB5 HX5 HE5 HR5 HC2 hg1
          go_wp2_with fail
          refine (many_any gx _ q x6 HE6.out).mono ?_
          rintro e x7 ⟨rfl, rfl⟩
          go_wp2_with fail
          have h8 := rmany_any gr gx (hs ++ b) x6 HR6.out
          rw [← HALL.out.2] at h8
          refine h8.mono ?_
          rintro e x8 ⟨rfl, rfl⟩
          clear h8
          go_wp2_with fail
          go_roundg (l.length - (i + 1))
          case measure => have := HA.out; omega
          case rel => exact ⟨i + 1, hs ++ b, by go_num, Lib.hid ⟨by omega, rfl, by rw [List.length_append]; exact grow_len HA.out.2.2 HL.out⟩, Lib.hid ⟨HR6.out, ⟨_, q, HE6.out, HALL.out.1, HALL.out.2⟩, fun x hx => (List.mem_append.1 hx).elim (HBH.out x) (HBB.out x)⟩, HB6, HX6⟩
      · have HB' := HB
        go_wp2_with fail
        go_ret
        exact ⟨rfl, HB'.out⟩
end Go.Proofs.Ytafkabkoglbndaa
