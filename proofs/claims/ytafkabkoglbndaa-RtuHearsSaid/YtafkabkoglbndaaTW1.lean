/- The law RtuTwo, walked. -/
import Derived.Test.YtafkabkoglbndaaBK1
namespace Go.Proofs.Ytafkabkoglbndaa
open Go.RowKit Go.Proofs.YtafkabkoglbndaaW.PrintWords Go.Proofs.YtafkabkoglbndaaW.PrintLast Go.Proofs.YtafkabkoglbndaaW.PrintMore
set_option linter.unusedVariables false
set_option linter.unusedSimpArgs false
set_option linter.constructorNameAsVariable false
theorem IsEar.below {w w' : World} {g : Nat} {row : List Int} {m : Nat} (h : IsEar w g row m) (hb : Below w.heap.size w w') : IsEar w' g row m := ⟨(hb.block g (blk_lt h.blk)).trans h.blk, h.len, h.byt, h.most⟩
theorem put_new (u : Int) (A : Option Addr) (c : Nat) (l : List Int) (w : World) (hu : 0 ≤ u ∧ u ≤ 255) (hb : Bytes l) (hr : Kd.C (Kd.int .u8) w A l.length l) (hc : l.length ≤ c) (m : List Int) (hm : putOf u l = m) :
    Calls Try.prog 12 #[.int .u8 u, .slice A l.length c] w fun e w' => ∃ B d, e = .returned (.slice B m.length d) ∧ m.length ≤ d ∧ Kd.C (Kd.int .u8) w' B m.length m ∧ (0 < m.length → ∀ ad, B = some ad → w.heap.size ≤ ad.block) ∧ Below w.heap.size w w' := by
  refine (QA.rtu_Put.calls u A c l m w hr hc (by rw [← hm]; exact put_f hu hb)).mono ?_
  rintro e w1 ⟨v, rfl, ho, hb⟩
  have ho' : Kd.R (Kd.int .u8) 5 w1 _ (fun _ => True) v m := ho
  obtain ⟨_, ⟨e1, h0⟩ | ⟨g, c, cur, rfl, hg, _⟩⟩ := Kd.own_of_R ho'
  · subst e1
    obtain ⟨h1, hc, hr⟩ := Kd.R_reads' ho'
    refine ⟨none, 0, by rw [← h1], by rw [← h1]; exact hc, hr, fun _ ad h => (by cases h), hb⟩
  · obtain ⟨_, hc, hr⟩ := Kd.R_reads' ho'
    exact ⟨some ⟨g, 0, none⟩, c, rfl, hc, hr, fun _ ad h => by cases h; exact hg, hb⟩
theorem nsum_two (n : List Nat) (hn : nsum 65535 n = 0) : nsum 0 n ≠ 0 := by
  have h := nsum_xor n n 0 65535 rfl
  rw [hn, zip_self, Nat.zero_xor, Nat.xor_zero] at h
  rw [← h]
  exact nsum_keeps n.length 65535 (by decide) (by decide)
theorem sum_both {m n : List Int} (hm : sum m = 0) (hn : sum n = 0) : sum (m ++ n) ≠ 0 := by
  rw [sum_nat] at hm hn ⊢
  rw [List.map_append, nsum_append, hm]
  exact nsum_two _ hn
theorem takes_full {m : Nat} {b : List Int} (h : m + b.length ≤ 257) : takes m b = b.length := by unfold takes; omega
/-- What two frames come to. -/
theorem sil_two (m n : List Int) (hm : sum m = 0) (hn : sum n = 0) (hm4 : 4 ≤ m.length) (hn4 : 4 ≤ n.length) (hm2 : m.length ≤ 256) :
    silOf ((hears (hears zeros 0 m) (0 + takes 0 m) n).take (0 + takes 0 m + takes (0 + takes 0 m) n)) = (0, [], if 256 < m.length + n.length then 22 else 23, true) := by
  have z : zeros.length = 257 := List.length_replicate
  have e1 : takes 0 m = m.length := takes_full (by omega)
  have e2 : (hears zeros 0 m).take (0 + takes 0 m) = m := by rw [hears_take zeros 0 m z (by omega), e1, List.take_length]; rfl
  rw [hears_take _ _ n (hears_length zeros 0 m z (by omega)) (by omega), e2, e1, Nat.zero_add]
  have hne : m ++ n.take (takes m.length n) ≠ [] := fun h => by have := congrArg List.length h; simp at this; have := this.1; rw [this] at hm4; simp at hm4
  unfold silOf
  rw [if_neg hne]
  by_cases h : 256 < m.length + n.length
  · have hl : (m ++ n.take (takes m.length n)).length = 257 := by
      rw [List.length_append, List.length_take]; unfold takes; omega
    rw [get_long _ (by omega), if_pos h]
  · have ht : takes m.length n = n.length := takes_full (by omega)
    rw [ht, List.take_length, if_neg h]
    unfold getOf
    rw [if_neg (by rw [List.length_append]; omega), if_neg (by rw [List.length_append]; omega), if_neg (sum_both hm hn)]
theorem put_facts {u : Int} {l m : List Int} (hu : 0 ≤ u ∧ u ≤ 255) (hb : Bytes l) (hm : putOf u l = m) (h : 0 < m.length) : sum m = 0 ∧ 4 ≤ m.length ∧ m.length ≤ 256 ∧ Bytes m := by
  subst hm
  by_cases h0 : l.length = 0
  · unfold putOf at h; rw [if_pos h0] at h; exact absurd h (by simp)
  by_cases h1 : 253 < l.length
  · unfold putOf at h; rw [if_neg h0, if_pos h1] at h; exact absurd h (by simp)
  obtain ⟨_, h2, h3, h4⟩ := put_get hu hb (show 0 < l.length by omega) (by omega)
  exact ⟨h4, by omega, by omega, h3⟩
theorem sil_err (g : Nat) (row : List Int) (k : Nat) (w : World) (hear : IsEar w g row k) (want : Int) (hx : silOf (row.take k) = (0, [], want, true)) :
    Calls Try.prog 17 #[.pointer (some ⟨g, 0, none⟩)] w fun e w' => ∃ B d, e = .returned (.tuple #[.int .u8 0, .slice B 0 d, .int .i64 want, .bool true]) ∧ Kp w w' g := by
  have h := silence_any g row k w hear
  rw [hx] at h
  refine h.mono ?_
  rintro e w' ⟨B, d, h1, _, _, _, h5⟩
  exact ⟨B, d, h1, h5⟩
set_option maxRecDepth 100000 in
set_option maxHeartbeats 8000000 in
theorem two_any (a0 : Int) (A : Option Addr) (c : Nat) (l : List Int) (A2 : Option Addr) (c2 : Nat) (l2 : List Int) (w : World) (ha : (Lit.int .u8 a0).wf = true)
    (hr : Kd.C (Kd.int .u8) w A l.length l) (hc : l.length ≤ c) (hw : l.length ≤ maxLen ∧ ∀ x0 ∈ l, (Lit.int .u8 x0).wf = true) (hy : l.length * 1 ≤ 140737488351232)
    (hr2 : Kd.C (Kd.int .u8) w A2 l2.length l2) (hc2 : l2.length ≤ c2) (hw2 : l2.length ≤ maxLen ∧ ∀ x0 ∈ l2, (Lit.int .u8 x0).wf = true) (hy2 : l2.length * 1 ≤ 140737488351232) :
    Calls Try.prog 8 #[.int .u8 a0, .slice A l.length c, .slice A2 l2.length c2] w fun e w' => e = .returned (.bool true) ∧ Below w.heap.size w w' := by
  have hu := byte_wf ha
  have HR := Lib.hid hr
  have HR2 := Lib.hid hr2
  have HBY := Lib.hid (bytes_wf hw.2)
  have HBY2 := Lib.hid (bytes_wf hw2.2)
  have HU := Lib.hid hu
  have hws : wrap64 ((l.length : Int) + (l2.length : Int)) = (l.length : Int) + (l2.length : Int) := by
    unfold wrap64
    omega
  obtain ⟨m, hm⟩ : ∃ m, putOf a0 l = m := ⟨_, rfl⟩
  obtain ⟨n, hn⟩ : ∃ n, putOf a0 l2 = n := ⟨_, rfl⟩
  have HM := Lib.hid hm
  have HN := Lib.hid hn
  clear hr hr2 ha hw hw2 hu hm hn hy hy2
  go_enter Try.func8, Try.ntmps8
  go_wp2_with fail
  refine (head_any _).mono ?_
  rintro e w1 ⟨rfl, hb1⟩
  have HB1 := Lib.hid hb1
  have HR1 := Lib.hid (Kd.C_below HR.out hb1)
  have HQ1 := Lib.hid (Kd.C_below HR2.out hb1)
  clear hb1 HR HR2
  go_wp2_with fail
  refine (new_any w1).mono ?_
  rintro e x2 ⟨g, rfl, hg, hear, hb⟩
  have hwg : w.heap.size ≤ g := Nat.le_trans HB1.out.size hg
  have HB2 := Lib.hid (below_step HB1.out hb)
  have HR2 := Lib.hid (Kd.C_below HR1.out hb)
  have HQ2 := Lib.hid (Kd.C_below HQ1.out hb)
  have HE2 := Lib.hid hear
  clear hb hear HB1 HR1 HQ1 hg
  go_wp2_with fail
  refine (put_new a0 A c l x2 HU.out HBY.out HR2.out hc m HM.out).mono ?_
  rintro e x3 ⟨F, f, rfl, hf, hfc, hfn, hb⟩
  have HB3 := Lib.hid (below_step HB2.out hb)
  have HQ3 := Lib.hid (Kd.C_below HQ2.out hb)
  have HE3 := Lib.hid (HE2.out.below hb)
  have HF3 := Lib.hid hfc
  have hgx : g < x3.heap.size := Nat.lt_of_lt_of_le (blk_lt HE2.out.blk) hb.size
  clear hb hfc HB2 HQ2 HR2 HE2 hfn
  go_wp2_with fail
  refine (put_new a0 A2 c2 l2 x3 HU.out HBY2.out HQ3.out hc2 n HN.out).mono ?_
  rintro e x4 ⟨G, k, rfl, hk, hgc, hgn, hb⟩
  have HB4 := Lib.hid (below_step HB3.out hb)
  have HE4 := Lib.hid (HE3.out.below hb)
  have HF4 := Lib.hid (Kd.C_below HF3.out hb)
  have HG4 := Lib.hid hgc
  have HGN : Hid (0 < n.length → ∀ ad, G = some ad → ad.block ≠ g) := Lib.hid (fun h ad e => by have := hgn h ad e; omega)
  clear hb hgc HB3 HQ3 HE3 HF3 hgn hgx
  by_cases h6 : 600 < (l.length : Int) + (l2.length : Int)
  · go_wp2_with fail
    go_ret
    exact ⟨rfl, HB4.out⟩
  by_cases hm0 : m.length = 0
  · have d6 : decide (600 < (l.length : Int) + (l2.length : Int)) = false := decide_eq_false h6
    have dm : ((m.length : Int) == 0) = true := by rw [hm0]; rfl
    go_wp2_with fail
    go_ret
    exact ⟨rfl, HB4.out⟩
  by_cases hn0 : n.length = 0
  · have d6 : decide (600 < (l.length : Int) + (l2.length : Int)) = false := decide_eq_false h6
    have dm : ((m.length : Int) == 0) = false := beq_eq_false_iff_ne.mpr (by omega)
    have dn : ((n.length : Int) == 0) = true := by rw [hn0]; rfl
    go_wp2_with fail
    go_ret
    exact ⟨rfl, HB4.out⟩
  have d6 : decide (600 < (l.length : Int) + (l2.length : Int)) = false := decide_eq_false h6
  have dm : ((m.length : Int) == 0) = false := beq_eq_false_iff_ne.mpr (by omega)
  have dn : ((n.length : Int) == 0) = false := beq_eq_false_iff_ne.mpr (by omega)
  obtain ⟨f1, f2, f3, f4⟩ := put_facts HU.out HBY.out HM.out (by omega)
  obtain ⟨k1, k2, k3, k4⟩ := put_facts HU.out HBY2.out HN.out (by omega)
  have HW := Lib.hid (sil_two m n f1 k1 f2 k2 f3)
  have HBF := Lib.hid f4
  have HBG := Lib.hid k4
  have hwm : wrap64 ((m.length : Int) + (n.length : Int)) = (m.length : Int) + (n.length : Int) := by unfold wrap64; omega
  have HGE := Lib.hid (HGN.out (by omega))
  clear f1 f4 k1 k4 HGN hm0 hn0 h6 f2 f3 k2 k3
  go_wp2_with fail
  refine (hear_any g zeros 0 F f m x4 HBF.out HE4.out HF4.out).mono ?_
  rintro e x5 ⟨⟨v5, rfl⟩, hear, hk5⟩
  have HE5 := Lib.hid hear
  have HB5 := Lib.hid (HB4.out.trans (hk5.below hwg HB4.out.size))
  have HG5 := Lib.hid (C_kp HG4.out hk5 HGE.out)
  clear hear hk5 HE4 HB4 HG4 HF4
  go_wp2_with fail
  refine (hear_any g _ _ G k n x5 HBG.out HE5.out HG5.out).mono ?_
  rintro e x6 ⟨⟨v6, rfl⟩, hear, hk6⟩
  have HE6 := Lib.hid hear
  have HB6 := Lib.hid (HB5.out.trans (hk6.below hwg HB5.out.size))
  clear hear hk6 HE5 HB5 HG5
  go_wp2_with fail
  by_cases ht : 256 < m.length + n.length
  · refine (sil_err g _ _ x6 HE6.out 22 (by have hW := HW.out; rwa [if_pos ht] at hW)).mono ?_
    rintro e x7 ⟨B9, d9, rfl, hk7⟩
    have HB7 := Lib.hid (HB6.out.trans (hk7.below hwg HB6.out.size))
    have d2 : decide (256 < (m.length : Int) + (n.length : Int)) = true := decide_eq_true (Int.ofNat_lt.mpr ht)
    clear hk7 HB6 HE6 HW ht
    go_wp2_with fail
    go_ret
    exact ⟨rfl, HB7.out⟩
  · refine (sil_err g _ _ x6 HE6.out 23 (by have hW := HW.out; rwa [if_neg ht] at hW)).mono ?_
    rintro e x7 ⟨B9, d9, rfl, hk7⟩
    have HB7 := Lib.hid (HB6.out.trans (hk7.below hwg HB6.out.size))
    have d2 : decide (256 < (m.length : Int) + (n.length : Int)) = false := decide_eq_false (fun h => ht (Int.ofNat_lt.mp h))
    clear hk7 HB6 HE6 HW ht
    go_wp2_with fail
    go_ret
    exact ⟨rfl, HB7.out⟩
end Go.Proofs.Ytafkabkoglbndaa
