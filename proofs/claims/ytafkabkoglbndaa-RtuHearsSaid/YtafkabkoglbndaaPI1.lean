/- The law RtuPieces, walked. -/
import Derived.Test.YtafkabkoglbndaaTW1
namespace Go.Proofs.Ytafkabkoglbndaa
open Go.RowKit Go.Proofs.YtafkabkoglbndaaW.PrintWords Go.Proofs.YtafkabkoglbndaaW.PrintLast Go.Proofs.YtafkabkoglbndaaW.PrintMore
attribute [local go_sem] max2_int min2_int max_two min_two
set_option linter.unusedVariables false
set_option linter.unusedSimpArgs false
/-- The ear has heard the first t bytes of b. -/
structure Heard (w : World) (g : Nat) (b : List Int) (t : Nat) : Prop where
  ear : ∃ row k, IsEar w g row k ∧ row.take k = (b.take t).take 257 ∧ k = min t 257
theorem piece (b : List Int) (t n : Nat) (h : t + n ≤ b.length) : b.take (t + n) = b.take t ++ (b.drop t).take n := List.take_add
theorem hears_piece {row b : List Int} {k t n : Nat} (hl : row.length = 257) (h1 : row.take k = (b.take t).take 257) (h2 : k = min t 257) (h : t + n ≤ b.length) :
    (hears row k ((b.drop t).take n)).take (k + takes k ((b.drop t).take n)) = (b.take (t + n)).take 257 ∧ k + takes k ((b.drop t).take n) = min (t + n) 257 := by
  have hn : ((b.drop t).take n).length = n := by rw [List.length_take, List.length_drop]; omega
  have ht : (b.take t).length = t := by rw [List.length_take]; omega
  have hk : k ≤ 257 := by omega
  refine ⟨?_, by unfold takes; rw [hn]; omega⟩
  rw [hears_take row k _ hl hk, h1, piece b t n h, List.take_append, ht]
  obtain ⟨p, hp⟩ : ∃ p, (b.drop t).take n = p := ⟨_, rfl⟩
  rw [hp] at hn ⊢
  congr 1
  unfold takes
  rw [hn]
  by_cases h7 : t ≤ 257
  · rw [show k = t by omega]
    by_cases h8 : n ≤ 257 - t
    · rw [Nat.min_eq_left h8, List.take_of_length_le (by rw [hn]; exact Nat.le_refl _), List.take_of_length_le (by rw [hn]; exact h8)]
    · rw [Nat.min_eq_right (by omega)]
  · rw [show k = 257 by omega, show 257 - t = 0 by omega]; simp
theorem byte_rd {l : List Int} (h : Bytes l) (i : Nat) (hi : i < l.length) : 0 ≤ rd l i ∧ rd l i ≤ 255 := by rw [rd_at l i hi]; exact h _ (List.getElem_mem _)
theorem sil_of (l : List Int) (h : 0 < l.length) : silOf (l.take 257) = ((getOf l).1, (getOf l).2.1, (getOf l).2.2, true) := by
  unfold silOf
  rw [if_neg (fun e => by have h2 : (l.take 257).length = 0 := by (rw [e]; rfl)
                          rw [List.length_take] at h2; omega)]
  by_cases h7 : l.length ≤ 257
  · rw [List.take_of_length_le h7]
  · rw [get_long l (by omega), get_long (l.take 257) (by rw [List.length_take]; omega)]
theorem sil_any (g : Nat) (row : List Int) (m : Nat) (w : World) (hear : IsEar w g row m) (u : Int) (p : List Int) (e0 : Int) (o : Bool) (hx : silOf (row.take m) = (u, p, e0, o)) :
    Calls Try.prog 17 #[.pointer (some ⟨g, 0, none⟩)] w fun e w' => ∃ B d, e = .returned (.tuple #[.int .u8 u, .slice B p.length d, .int .i64 e0, .bool o]) ∧ p.length ≤ d ∧ Kd.C (Kd.int .u8) w' B p.length p ∧ IsEar w' g row 0 ∧ Kp w w' g := by
  have h := silence_any g row m w hear
  rw [hx] at h
  exact h
theorem mid_any (A1 : Option Addr) (c1 : Nat) (b : List Int) (t q : Nat) (h : t + q ≤ b.length) (hc : b.length ≤ c1) :
    ∃ (A' : Option Addr) (p : List Int), p = (b.drop t).take q ∧ (∀ W, (Instr.slice 22 (.slice A1 b.length c1) (some (.int .i64 t)) (some (.int .i64 ((t : Int) + (q : Int)))) none).run Try.prog W = .ok (.slice A' p.length (c1 - t)) W) ∧
      ∀ w, Kd.C (Kd.int .u8) w A1 b.length b → Kd.C (Kd.int .u8) w A' p.length p := by
  obtain ⟨i0, hi0, _, hsz, _⟩ := info_parts infob5
  obtain ⟨A', hcut, hA, hC⟩ := print_mid_of (P := Try.prog) (Value.int .u8) 0 22 5 .i64 .i64 Try.underlying22 hi0 hsz A1 c1 b (t : Int) ((t : Int) + (q : Int)) (by omega) (by omega) (by omega) hc
  have e : (b.take ((t : Int) + (q : Int)).toNat).drop (t : Int).toNat = (b.drop t).take q := by
    rw [show ((t : Int) + (q : Int)).toNat = t + q by omega, Int.toNat_natCast, List.drop_take, show t + q - t = q by omega]
  rw [e] at hcut hA
  exact ⟨A', _, rfl, fun W => by have := hcut W; rwa [Int.toNat_natCast] at this, fun w hr => Kd.C_of_reads (h1 := fun _ => rfl) (hA _ (Kd.reads_of_C hr))⟩
set_option maxRecDepth 100000 in
set_option maxHeartbeats 8000000 in
theorem pieces_any (A : Option Addr) (c : Nat) (l : List Int) (A1 : Option Addr) (c1 : Nat) (b : List Int) (A2 : Option Addr) (c2 : Nat) (cs : List Int) (w : World)
    (hr : Kd.C (Kd.int .u8) w A l.length l) (hc : l.length ≤ c) (hw : l.length ≤ maxLen ∧ ∀ x0 ∈ l, (Lit.int .u8 x0).wf = true) (hy : l.length * 1 ≤ 140737488351232)
    (hr1 : Kd.C (Kd.int .u8) w A1 b.length b) (hc1 : b.length ≤ c1) (hw1 : b.length ≤ maxLen ∧ ∀ x0 ∈ b, (Lit.int .u8 x0).wf = true) (hy1 : b.length * 1 ≤ 140737488351232)
    (hr2 : Kd.C (Kd.int .u8) w A2 cs.length cs) (hc2 : cs.length ≤ c2) (hw2 : cs.length ≤ maxLen ∧ ∀ x0 ∈ cs, (Lit.int .u8 x0).wf = true) (hy2 : cs.length * 1 ≤ 140737488351232) :
    Calls Try.prog 6 #[.slice A l.length c, .slice A1 b.length c1, .slice A2 cs.length c2] w fun e w' => e = .returned (.bool true) ∧ Below w.heap.size w w' := by
  have HR := Lib.hid hr
  have HR1 := Lib.hid hr1
  have HR2 := Lib.hid hr2
  have HBY := Lib.hid (bytes_wf hw.2)
  have HBB := Lib.hid (bytes_wf hw1.2)
  have HBC := Lib.hid (bytes_wf hw2.2)
  have hws : wrap64 ((l.length : Int) + (b.length : Int)) = (l.length : Int) + (b.length : Int) := by
    unfold wrap64
    omega
  clear hr hr1 hr2 hw hw1 hw2 hy hy1 hy2
  go_enter Try.func6, Try.ntmps6
  go_wp2_with fail
  refine (head_any _).mono ?_
  rintro e w1 ⟨rfl, hb1⟩
  have HB1 := Lib.hid hb1
  have HQ := Lib.hid (Kd.C_below HR.out hb1)
  have HQ1 := Lib.hid (Kd.C_below HR1.out hb1)
  have HQ2 := Lib.hid (Kd.C_below HR2.out hb1)
  clear hb1 HR HR1 HR2
  go_wp2_with fail
  refine (new_any w1).mono ?_
  rintro e x2 ⟨g, rfl, hg, hear, hb⟩
  have hwg : w.heap.size ≤ g := Nat.le_trans HB1.out.size hg
  have HB2 := Lib.hid (below_step HB1.out hb)
  have HX2 := Lib.hid hb
  have HE2 := Lib.hid hear
  clear hb hear
  by_cases h9 : 9000 < (l.length : Int) + (b.length : Int)
  · go_wp2_with fail
    go_ret
    exact ⟨rfl, HB2.out⟩
  by_cases h3 : 300 < (cs.length : Int)
  · have d9 : decide (9000 < (l.length : Int) + (b.length : Int)) = false := decide_eq_false h9
    go_wp2_with fail
    go_ret
    exact ⟨rfl, HB2.out⟩
  have d9 : decide (9000 < (l.length : Int) + (b.length : Int)) = false := decide_eq_false h9
  have d3 : decide (300 < (cs.length : Int)) = false := decide_eq_false h3
  have hbl : b.length ≤ 9000 := by clear hws; omega
  have hcl : cs.length ≤ 300 := by clear hws; omega
  clear h9 h3
  go_wp2_with fail
  refine (hear_any g zeros 0 A c l x2 HBY.out HE2.out (Kd.C_below HQ.out HX2.out)).mono ?_
  rintro e x3 ⟨⟨v3, rfl⟩, hear, hk3⟩
  have HE3 := Lib.hid hear
  have HB3 := Lib.hid (HB2.out.trans (hk3.below hwg HB2.out.size))
  have HX3 := Lib.hid (HX2.out.trans (hk3.below hg HX2.out.size))
  clear hear hk3 HE2 HB2 HX2 HQ
  go_wp2_with fail
  obtain ⟨r, hr⟩ : ∃ r, silOf ((hears zeros 0 l).take (0 + takes 0 l)) = r := ⟨_, rfl⟩
  obtain ⟨ru, rp, re, ro⟩ := r
  refine (sil_any g _ _ x3 HE3.out ru rp re ro hr).mono ?_
  rintro e x4 ⟨B4, d4, rfl, hd4, _, hear, hk4⟩
  have HB4 := Lib.hid (HB3.out.trans (hk4.below hwg HB3.out.size))
  have HX4 := Lib.hid (HX3.out.trans (hk4.below hg HX3.out.size))
  have HH : Hid (Heard x4 g b 0) := Lib.hid ⟨_, _, hear, by simp, by simp⟩
  clear hear hk4 HE3 HB3 HX3 hr hd4 hws d9 d3
  go_wp2_with fail
  go_loopg [9, 10] (cs.length + 1) (fun kq v9 v10 w' => ∃ (t i : Nat), v9 = .int .i64 (t : Int) ∧ v10 = .int .i64 (i : Int) ∧ Hid (t ≤ b.length ∧ i ≤ cs.length + 1 ∧ (i = cs.length + 1 → t = b.length) ∧ kq = cs.length + 1 - i) ∧ Hid (Heard w' g b t) ∧ Hid (Below w.heap.size w w') ∧ Hid (Below w1.heap.size w1 w'))
  case atStart => exact ⟨0, 0, rfl, rfl, Lib.hid ⟨by omega, by omega, by omega, by omega⟩, HH, HB4, HX4⟩
  case round =>
    clear HH HB4 HX4 HB1
    obtain ⟨t, i, rfl, rfl, HA, HH, HB, HX⟩ := hrel
    have ha := HA.out
    by_cases hi : (i : Int) < (cs.length : Int)
    · have hle : (i : Int) ≤ (cs.length : Int) := by omega
      obtain ⟨ad, rfl, hx⟩ := Kd.at_int (Kd.C_below HQ2.out HX.out) (i : Int) (by omega) (by omega)
      simp only [Int.toNat_natCast] at hx
      have hxb := byte_rd HBC.out i (by omega)
      generalize rd cs i = x at hx hxb
      have HWX := Lib.hid (show wrap64 x = x by unfold wrap64; omega)
      obtain ⟨q, hq, hq3⟩ : ∃ q : Nat, (if (b.length : Int) - (t : Int) < x then (b.length : Int) - (t : Int) else x) = (q : Int) ∧ t + q ≤ b.length := by
        by_cases h : (b.length : Int) - (t : Int) < x
        · exact ⟨b.length - t, by rw [if_pos h]; omega, by omega⟩
        · exact ⟨x.toNat, by rw [if_neg h]; omega, by omega⟩
      clear ha hxb
      obtain ⟨A', p, hp, hcut, hC⟩ := mid_any A1 c1 b t q hq3 hc1
      have hpb : Bytes p := by rw [hp]; exact bytes_take (bytes_drop HBB.out t) q
      have HP := Lib.hid hp
      have HPB := Lib.hid hpb
      have HC := Lib.hid hC
      clear hp hpb hC
      have hwx := HWX.out
      go_wp2_with fail
      obtain ⟨row, k, hear, htk, hk⟩ := HH.out.ear
      refine (hear_any g row k A' (c1 - t) p wr HPB.out hear (HC.out _ (Kd.C_below HQ1.out HX.out))).mono ?_
      rintro e x5 ⟨⟨v5, rfl⟩, hear5, hk5⟩
      have HB5 := Lib.hid (HB.out.trans (hk5.below hwg HB.out.size))
      have HX5 := Lib.hid (HX.out.trans (hk5.below hg HX.out.size))
      have HH5 : Hid (Heard x5 g b (t + q)) := Lib.hid ⟨_, _, hear5, by rw [HP.out]; exact (hears_piece hear.len htk hk hq3).1, by rw [HP.out]; exact (hears_piece hear.len htk hk hq3).2⟩
      clear hear htk hear5 hk5 HH HB HX HP HPB HC hcut
      go_wp2_with fail
      clear hwx
      go_roundg (cs.length - i)
      case measure => have := HA.out; omega
      case rel => exact ⟨t + q, i + 1, by go_num, by go_num, Lib.hid (by have := HA.out; omega), HH5, HB5, HX5⟩
    · by_cases hle : (i : Int) = (cs.length : Int)
      · have hi' : (i : Int) ≤ (cs.length : Int) := by omega
        obtain ⟨q, hq, hq3⟩ : ∃ q : Nat, (b.length : Int) - (t : Int) = (q : Int) ∧ t + q ≤ b.length := ⟨b.length - t, by omega, by omega⟩
        have hqt : t + q = b.length := by omega
        clear ha
        obtain ⟨A', p, hp, hcut, hC⟩ := mid_any A1 c1 b t q hq3 hc1
        have hpb : Bytes p := by rw [hp]; exact bytes_take (bytes_drop HBB.out t) q
        have HP := Lib.hid hp
        have HPB := Lib.hid hpb
        have HC := Lib.hid hC
        clear hp hpb hC
        go_wp2_with fail
        obtain ⟨row, k, hear, htk, hk⟩ := HH.out.ear
        refine (hear_any g row k A' (c1 - t) p wr HPB.out hear (HC.out _ (Kd.C_below HQ1.out HX.out))).mono ?_
        rintro e x5 ⟨⟨v5, rfl⟩, hear5, hk5⟩
        have HB5 := Lib.hid (HB.out.trans (hk5.below hwg HB.out.size))
        have HX5 := Lib.hid (HX.out.trans (hk5.below hg HX.out.size))
        have HH5 : Hid (Heard x5 g b (t + q)) := Lib.hid ⟨_, _, hear5, by rw [HP.out]; exact (hears_piece hear.len htk hk hq3).1, by rw [HP.out]; exact (hears_piece hear.len htk hk hq3).2⟩
        clear hear htk hear5 hk5 HH HB HX HP HPB HC hcut
        go_wp2_with fail
        go_roundg (cs.length - i)
        case measure => have := HA.out; omega
        case rel => exact ⟨t + q, i + 1, by go_num, by go_num, Lib.hid (by have := HA.out; omega), HH5, HB5, HX5⟩
      · have hi' : ¬ ((i : Int) ≤ (cs.length : Int)) := by omega
        have ht : t = b.length := ha.2.2.1 (by omega)
        subst ht
        clear ha
        obtain ⟨row, k, hear, htk, hk⟩ := HH.out.ear
        rw [List.take_length] at htk
        by_cases hb0 : b.length = 0
        · have hs : silOf (row.take k) = (0, [], 0, false) := by
            rw [htk, List.length_eq_zero_iff.mp hb0]; rfl
          have db : ((b.length : Int) == 0) = true := by rw [hb0]; rfl
          have HE := Lib.hid hear
          have HS := Lib.hid hs
          clear hear hs htk hb0
          go_wp2_with fail
          refine (sil_any g _ _ wr HE.out 0 [] 0 false HS.out).mono ?_
          rintro e x6 ⟨B6, d6, rfl, _, _, hear, hk6⟩
          have HB6 := Lib.hid (HB.out.trans (hk6.below hwg HB.out.size))
          clear hear hk6
          go_wp2_with fail
          go_ret
          exact ⟨rfl, HB6.out⟩
        · obtain ⟨r, hr⟩ : ∃ r, getOf b = r := ⟨_, rfl⟩
          obtain ⟨u0, p0, e0⟩ := r
          have hs : silOf (row.take k) = (u0, p0, e0, true) := by
            rw [htk, sil_of b (by omega), hr]
          have db : ((b.length : Int) == 0) = false := beq_eq_false_iff_ne.mpr (by omega)
          have HE := Lib.hid hear
          have HS := Lib.hid hs
          have HG := Lib.hid hr
          clear hear hs htk hb0 hr
          go_wp2_with fail
          refine (sil_any g _ _ wr HE.out u0 p0 e0 true HS.out).mono ?_
          rintro e x6 ⟨B6, d6, rfl, hd6, hc6, hear, hk6⟩
          have HB6 := Lib.hid (HB.out.trans (hk6.below hwg HB.out.size))
          have HX6 := Lib.hid (HX.out.trans (hk6.below hg HX.out.size))
          have HE6 := Lib.hid hear
          have HC6 := Lib.hid hc6
          clear hear hk6 HB HX HE hc6
          go_wp2_with fail
          have hgt := get_any A1 c1 b x6 HBB.out (Kd.C_below HQ1.out HX6.out) hc1
          rw [HG.out] at hgt
          refine hgt.mono ?_
          rintro e x7 ⟨B7, d7, rfl, hd7, hc7, hb7⟩
          simp only at hd7 hc7
          have HB7 := Lib.hid (below_then HB6.out HB6.out.size hb7)
          have HE7 := Lib.hid (HE6.out.below hb7)
          have hcv1 : (convert 22 9 (.slice B6 p0.length d6)).run Try.prog x7 = .ok (.string (strOfNums p0)) x7 := str_of (Kd.C_below HC6.out hb7) (Below.refl _ _)
          have hcv2 : (convert 22 9 (.slice B7 p0.length d7)).run Try.prog x7 = .ok (.string (strOfNums p0)) x7 := str_of hc7 (Below.refl _ _)
          have hq1 : (u0 == u0) = true := by simp
          have hq2 : (e0 == e0) = true := by simp
          have hq3 : ((strOfNums p0).toList == (strOfNums p0).toList) = true := by simp
          clear hgt hc7 hb7 HB6 HE6 HX6 HC6
          go_wp2_with fail
          refine (many_any g row 0 x7 HE7.out).mono ?_
          rintro e x8 ⟨rfl, rfl⟩
          go_wp2_with fail
          go_ret
          exact ⟨rfl, HB7.out⟩
end Go.Proofs.Ytafkabkoglbndaa
