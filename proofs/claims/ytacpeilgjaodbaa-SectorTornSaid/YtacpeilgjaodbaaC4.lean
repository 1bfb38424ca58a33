/- The law SectorTorn, walked. -/
import Derived.Test.YtacpeilgjaodbaaGR
namespace Go.Proofs.Ytacpeilgjaodbaa
open Go.RowKit Go.Proofs.YtacpeilgjaodbaaW.PrintWords Go.Proofs.YtacpeilgjaodbaaW.PrintLast Go.Proofs.YtacpeilgjaodbaaW.PrintMore
attribute [local go_sem] max2_int min2_int max_two min_two
set_option linter.unusedVariables false
set_option linter.unusedSimpArgs false
/-- The disk behind i writes of the same. -/
structure Of (D : Dk) (other : List Int) (i : Nat) : Prop where
  n : D.n = 4
  down : D.down = false
  cut : D.cut = none
  s : ∀ j, j < i → sect D j = padOf other
/-- What the law says of the disk: one sector holds x, all others hold the same. -/
structure Tn (D : Dk) (down : Bool) (k : Nat) (x : List Int) (other : List Int) : Prop where
  n : D.n = 4
  down : D.down = down
  sk : sect D k = x
  s : ∀ j, j < 4 → j ≠ k → sect D j = padOf other
theorem of_step {D : Dk} {other : List Int} {i : Nat} (h : Of D other i) (hl : D.rows.length = 64 * D.n) (hi : i < 4) (ho : other.length ≤ 64) : ∃ D', writeOf D (i : Int) other = (0, D') ∧ Of D' other (i + 1) := by
  obtain ⟨D', e, h3, h4, h5, _, h7, h8⟩ := write_fine D (i : Int) other hl h.down h.cut (by omega) (by rw [h.n]; omega) ho
  refine ⟨D', e, h3.trans h.n, h4, h5, fun j hj => ?_⟩
  by_cases e : j = i
  · subst e; exact h7
  · exact (h8 j (by omega)).trans (h.s j (by omega))
theorem of_was {D : Dk} {other was : List Int} (h : Of D other 4) (hl : D.rows.length = 64 * D.n) {k : Nat} (hk : k < 4) (hw : was.length ≤ 64) : ∃ D', writeOf D (k : Int) was = (0, D') ∧ Tn D' false k (padOf was) other ∧ D'.cut = none := by
  obtain ⟨D', e, h3, h4, h5, _, h7, h8⟩ := write_fine D (k : Int) was hl h.down h.cut (by omega) (by rw [h.n]; omega) hw
  exact ⟨D', e, ⟨h3.trans h.n, h4, h7, fun j hj hne => (h8 j (by omega)).trans (h.s j hj)⟩, h5⟩
def tornOf (was now : List Int) (n : Int) : List Int := (padOf now).take (clamp n).toNat ++ (padOf was).drop (clamp n).toNat
theorem tn_cut {D : Dk} {other was now : List Int} {n : Int} {k : Nat} (h : Tn D false k (padOf was) other) (hl : D.rows.length = 64 * D.n) (hk : k < 4) (hn : now.length ≤ 64) : ∃ D', writeOf (cut D 0 n) (k : Int) now = (101, D') ∧ Tn D' true k (tornOf was now n) other := by
  have hc : cut D 0 n = { D with cut := some (0, clamp n) } := by unfold cut; rw [if_pos (by omega)]
  obtain ⟨D', e, h3, h4, _, _, h7, h8⟩ := write_torn (cut D 0 n) (k : Int) (clamp n) now (by rw [hc]; exact hl) (by rw [hc]; exact h.down) (by rw [hc]) (by omega) (by rw [hc]; show (k : Int) < (D.n : Int); rw [h.n]; omega) hn (by unfold clamp; omega)
  rw [Int.toNat_natCast] at h7
  refine ⟨D', e, h3.trans (by rw [hc]; exact h.n), h4, ?_, fun j hj hne => (h8 j (by omega)).trans (by rw [hc]; exact h.s j hj hne)⟩
  rw [h7]
  unfold tornOf
  congr 2
  rw [hc]
  exact h.sk
theorem tn_boot {D : Dk} {other x : List Int} {d : Bool} {k : Nat} (h : Tn D d k x other) : Tn (boot D) false k x other := ⟨h.n, rfl, h.sk, h.s⟩
theorem tn_read {D : Dk} {other x : List Int} {k : Nat} (h : Tn D false k x other) (hk : k < 4) : readOf D (k : Int) = (x, 0) := by
  rw [readOf_up D k h.down (by rw [h.n]; exact hk), h.sk]
theorem tn_next {D : Dk} {other x : List Int} {k : Nat} (h : Tn D false k x other) (hk : k < 4) : readOf D (((k : Int) + 1) % 4) = (padOf other, 0) := by
  obtain ⟨j, hj⟩ : ∃ j : Nat, ((k : Int) + 1) % 4 = (j : Int) := Int.eq_ofNat_of_zero_le (by omega)
  rw [hj, readOf_up D j h.down (by rw [h.n]; omega), h.s j (by omega) (by omega)]
theorem torn_len (was now : List Int) (n : Int) (h1 : was.length ≤ 64) (h2 : now.length ≤ 64) : (tornOf was now n).length = 64 := by
  unfold tornOf
  have := padOf_len h1
  have := padOf_len h2
  rw [List.length_append, List.length_take, List.length_drop]
  unfold clamp
  omega
theorem torn_rd (was now : List Int) (n : Int) (hn : 0 ≤ n) (h1 : was.length ≤ 64) (h2 : now.length ≤ 64) (i : Nat) (hi : i < 64) :
    rd (tornOf was now n) (i : Int) = if (i : Int) < n then (if i < now.length then rd now (i : Int) else 0) else if i < was.length then rd was (i : Int) else 0 := by
  have := torn_at was now n hn h1 h2 i hi
  unfold rd tornOf
  rw [Int.toNat_natCast, List.getD_eq_getElem?_getD, this]
  rfl
theorem byte_wf2 {a : Int} (h : (Lit.int .u8 a).wf = true) : 0 ≤ a ∧ a ≤ 255 := by
  simp only [Lit.wf, IntKind.min, IntKind.max, IntKind.signed, IntKind.bits, Bool.and_eq_true, decide_eq_true_eq, Bool.false_eq_true, if_false] at h
  omega
set_option maxRecDepth 100000 in
set_option maxHeartbeats 16000000 in
theorem torn_law (A0 : Option Addr) (c0 : Nat) (was : List Int) (A1 : Option Addr) (c1 : Nat) (now : List Int) (n a3 : Int) (A4 : Option Addr) (c4 : Nat) (other : List Int) (w : World)
    (hr0 : Kd.C (Kd.int .u8) w A0 was.length was) (hc0 : was.length ≤ c0) (hw0 : was.length ≤ maxLen ∧ ∀ x1 ∈ was, (Lit.int .u8 x1).wf = true)
    (hr1 : Kd.C (Kd.int .u8) w A1 now.length now) (hc1 : now.length ≤ c1) (hw1 : now.length ≤ maxLen ∧ ∀ x1 ∈ now, (Lit.int .u8 x1).wf = true)
    (hn : (Lit.int .u8 n).wf = true) (ha3 : (Lit.int .u8 a3).wf = true)
    (hr4 : Kd.C (Kd.int .u8) w A4 other.length other) (hc4 : other.length ≤ c4) (hw4 : other.length ≤ maxLen ∧ ∀ x1 ∈ other, (Lit.int .u8 x1).wf = true) :
    Calls Try.prog 4 #[.slice A0 was.length c0, .slice A1 now.length c1, .int .u8 n, .int .u8 a3, .slice A4 other.length c4] w fun e w' => e = .returned (.bool true) ∧ Below w.heap.size w w' := by
  have hbn := byte_wf2 hn
  have hba := byte_wf2 ha3
  have HBW := Lib.hid (bytes_wf hw0.2)
  have HBN := Lib.hid (bytes_wf hw1.2)
  have HBO := Lib.hid (bytes_wf hw4.2)
  have hm0 := hw0.1
  have hm1 := hw1.1
  have hm4 := hw4.1
  unfold maxLen at hm0 hm1 hm4
  have HR0 := Lib.hid hr0
  have HR1 := Lib.hid hr1
  have HR4 := Lib.hid hr4
  clear hr0 hr1 hr4 hw0 hw1 hw4 hn ha3
  go_enter Try.func4, Try.ntmps4
  go_wp2_with fail
  refine (head_any _).mono ?_
  rintro e w1 ⟨rfl, hb1⟩
  have HB1 := Lib.hid hb1
  have HQ0 := Lib.hid (Kd.C_below HR0.out hb1)
  have HQ1 := Lib.hid (Kd.C_below HR1.out hb1)
  have HQ4 := Lib.hid (Kd.C_below HR4.out hb1)
  clear hb1 HR0 HR1 HR4
  go_wp2_with fail
  refine (new_any 4 w1).mono ?_
  rintro e w2 ⟨g, r, rfl, hd, hb⟩
  have HB2 := Lib.hid hb
  have HD2 : Hid (∃ D, IsDisk w2 w1.heap.size g r D ∧ Of D other 0) := Lib.hid ⟨_, hd, (by decide : manyOf 4 = 4), rfl, rfl, fun j hj => absurd hj (by omega)⟩
  clear hb hd
  by_cases h0 : 64 < (was.length : Int)
  · go_wp2_with fail
    go_ret
    exact ⟨rfl, below_then HB1.out HB1.out.size HB2.out⟩
  by_cases h1 : 64 < (now.length : Int)
  · have h0' : (was.length : Int) ≤ 64 := by omega
    go_wp2_with fail
    go_ret
    exact ⟨rfl, below_then HB1.out HB1.out.size HB2.out⟩
  by_cases h4 : 64 < (other.length : Int)
  · have h0' : (was.length : Int) ≤ 64 := by omega
    have h1' : (now.length : Int) ≤ 64 := by omega
    go_wp2_with fail
    go_ret
    exact ⟨rfl, below_then HB1.out HB1.out.size HB2.out⟩
  have h0' : (was.length : Int) ≤ 64 := by omega
  have h1' : (now.length : Int) ≤ 64 := by omega
  have h4' : (other.length : Int) ≤ 64 := by omega
  have h0n : was.length ≤ 64 := by omega
  have h1n : now.length ≤ 64 := by omega
  have h4n : other.length ≤ 64 := by omega
  obtain ⟨k, hk⟩ : ∃ k : Nat, a3 % 4 = (k : Int) := Int.eq_ofNat_of_zero_le (by omega)
  have hk4 : k < 4 := by omega
  have hk4i : (k : Int) < 4 := by omega
  clear h0 h1 h4 hm0 hm1 hm4
  go_wp2_with fail
  rw [hk]
  clear hk hba
  go_loopg [14] 4 (fun kq v14 w' => ∃ (i : Nat), v14 = .int .i64 (i : Int) ∧ Hid (i ≤ 4 ∧ kq = 4 - i) ∧ Hid (∃ D, IsDisk w' w1.heap.size g r D ∧ Of D other i) ∧ Hid (Below w1.heap.size w1 w'))
  case atStart => exact ⟨0, rfl, Lib.hid ⟨by omega, by omega⟩, HD2, HB2⟩
  case round =>
    clear HD2 HB2
    obtain ⟨i, rfl, HA, HD, HB⟩ := hrel
    obtain ⟨D, hD, hS⟩ := HD.out
    by_cases hi : (i : Int) < 4
    · obtain ⟨D', he, hS'⟩ := of_step hS hD.len (by omega) h4n
      have HDD := Lib.hid hD
      have HE := Lib.hid he
      have HS' := Lib.hid hS'
      clear hD hS he hS' HD
      have hi4 : i < 4 := by omega
      go_wp2_with fail
      refine (write_any w1.heap.size g r D (i : Int) A4 c4 other wr HDD.out HBO.out (Kd.C_below HQ4.out HB.out) _ HE.out).mono ?_
      rintro e w5 ⟨rfl, hd, hb, -⟩
      have HB5 := Lib.hid (HB.out.trans hb)
      have HDD5 := Lib.hid hd
      clear hb hd HB HDD HE
      go_wp2_with fail
      go_roundg (4 - (i + 1))
      case measure => have := HA.out; omega
      case rel => exact ⟨i + 1, by go_num, Lib.hid ⟨by omega, rfl⟩, Lib.hid ⟨_, HDD5.out, HS'.out⟩, HB5⟩
    · obtain rfl : i = 4 := by have := HA.out; omega
      obtain ⟨D5, he5, hS5, hc5⟩ := of_was hS hD.len hk4 h0n (was := was)
      have HDD := Lib.hid hD
      have HE5 := Lib.hid he5
      have HS5 := Lib.hid hS5
      clear hD hS he5 hS5 HD hi
      go_wp2_with fail
      refine (write_any w1.heap.size g r D (k : Int) A0 c0 was wr HDD.out HBW.out (Kd.C_below HQ0.out HB.out) _ HE5.out).mono ?_
      rintro e w5 ⟨rfl, hd, hb, -⟩
      have HB5 := Lib.hid (HB.out.trans hb)
      have HD5 := Lib.hid hd
      have HE6 := Lib.hid (tn_cut (n := n) (now := now) HS5.out hd.len hk4 h1n)
      clear hb hd HB HDD HE5
      go_wp2_with fail
      refine (cut_any w1.heap.size g r D5 0 n w5 HD5.out (by omega)).mono ?_
      rintro e w6 ⟨⟨v6, rfl⟩, hd, hb, -⟩
      have HB6 := Lib.hid (HB5.out.trans hb)
      have HD6 := Lib.hid hd
      obtain ⟨D7, he7, hS7⟩ := HE6.out
      have HE7 := Lib.hid he7
      have HS7 := Lib.hid hS7
      clear hb hd HB5 HD5 HE6 he7 hS7
      go_wp2_with fail
      refine (write_any w1.heap.size g r (cut D5 0 n) (k : Int) A1 c1 now w6 HD6.out HBN.out (Kd.C_below HQ1.out HB6.out) _ HE7.out).mono ?_
      rintro e w7 ⟨rfl, hd, hb, -⟩
      have HB7 := Lib.hid (HB6.out.trans hb)
      have HD7 := Lib.hid hd
      clear hb hd HB6 HD6 HE7
      go_wp2_with fail
      refine (down_any w1.heap.size g r D7 w7 HD7.out).mono ?_
      rintro e w8 ⟨rfl, rfl⟩
      rw [HS7.out.down]
      go_wp2_with fail
      refine (boot_any w1.heap.size g r D7 w7 HD7.out).mono ?_
      rintro e w8 ⟨⟨v8, rfl⟩, hd, hb, -⟩
      have HB8 := Lib.hid (HB7.out.trans hb)
      have HD8 := Lib.hid hd
      have HS8 := Lib.hid (tn_boot HS7.out)
      clear hb hd HB7 HD7 HS7
      go_wp2_with fail
      refine (read_any w1.heap.size g r (boot D7) (k : Int) w8 HD8.out _ (tn_read HS8.out hk4)).mono ?_
      rintro e w9 ⟨A9, d9, rfl, hd9, hc9, hb⟩
      have HB9 := Lib.hid (below_then HB8.out HB8.out.size hb)
      have HD9 := Lib.hid (HD8.out.below hb)
      have hxl := torn_len was now n h0n h1n
      simp only at hd9 hc9
      obtain ⟨X, hX⟩ : ∃ X, tornOf was now n = X := ⟨_, rfl⟩
      have HTR := Lib.hid (torn_rd was now n hbn.1 h0n h1n)
      rw [hX] at hxl hd9 hc9 HTR
      have hxe : ((X.length : Int) != 64) = false := by rw [hxl]; rfl
      have HXL := Lib.hid hxl
      have HC9 := Lib.hid hc9
      obtain ⟨ad9, rfl, _⟩ := Kd.at_int hc9 0 (by omega) (by omega)
      show _
      rw [show (tornOf was now n, (0 : Int)).1.length = X.length from by rw [hX]]
      clear hb hc9 HB8 HD8 hxl hX
      go_wp2_with fail
      go_loopg [19] 64 (fun kq v19 w' => ∃ (i : Nat), v19 = .int .i64 (i : Int) ∧ Hid (i ≤ 64 ∧ kq = 64 - i) ∧ w' = w9)
      case atStart => exact ⟨0, rfl, Lib.hid ⟨by omega, by omega⟩, rfl⟩
      case round =>
        clear HA
        obtain ⟨i, rfl, HA, rfl⟩ := hrel
        by_cases hi : (i : Int) < 64
        · have hiN : i < 64 := by omega
          obtain ⟨ad', e', hx⟩ := Kd.at_int HC9.out (i : Int) (by omega) (by have := HXL.out; omega)
          injection e' with e'
          subst e'
          rw [HTR.out i hiN] at hx
          simp only [Int.toNat_natCast] at hx
          have hxl2 : (i : Int) < (X.length : Int) := by rw [HXL.out]; omega
          have hxl3 : i < X.length := by rw [HXL.out]; omega
          by_cases hin : (i : Int) < n
          · rw [if_pos hin] at hx
            by_cases hl : i < now.length
            · rw [if_pos hl] at hx
              have hli : (i : Int) < (now.length : Int) := by omega
              obtain ⟨ad1, rfl, hy⟩ := Kd.at_int (Kd.C_below HQ1.out HB9.out) (i : Int) (by omega) (by omega)
              simp only [Int.toNat_natCast] at hy
              obtain ⟨v, hv⟩ : ∃ v, rd now (i : Int) = v := ⟨_, rfl⟩
              rw [hv] at hx hy
              have hq : (v != v) = false := by simp
              clear hv
              go_wp2_with fail
              go_roundg (64 - (i + 1))
              case measure => have := HA.out; omega
              case rel => exact ⟨i + 1, by go_num, Lib.hid ⟨by omega, rfl⟩, rfl⟩
            · rw [if_neg hl] at hx
              have hli : ¬ (i : Int) < (now.length : Int) := by omega
              have hld : decide (i < now.length) = false := decide_eq_false hl
              go_wp2_with fail
              go_roundg (64 - (i + 1))
              case measure => have := HA.out; omega
              case rel => exact ⟨i + 1, by go_num, Lib.hid ⟨by omega, rfl⟩, rfl⟩
          · rw [if_neg hin] at hx
            have hind : decide ((i : Int) < n) = false := decide_eq_false hin
            by_cases hl : i < was.length
            · rw [if_pos hl] at hx
              have hli : (i : Int) < (was.length : Int) := by omega
              obtain ⟨ad1, rfl, hy⟩ := Kd.at_int (Kd.C_below HQ0.out HB9.out) (i : Int) (by omega) (by omega)
              simp only [Int.toNat_natCast] at hy
              obtain ⟨v, hv⟩ : ∃ v, rd was (i : Int) = v := ⟨_, rfl⟩
              rw [hv] at hx hy
              have hq : (v != v) = false := by simp
              clear hv
              go_wp2_with fail
              go_roundg (64 - (i + 1))
              case measure => have := HA.out; omega
              case rel => exact ⟨i + 1, by go_num, Lib.hid ⟨by omega, rfl⟩, rfl⟩
            · rw [if_neg hl] at hx
              have hli : ¬ (i : Int) < (was.length : Int) := by omega
              have hld : decide (i < was.length) = false := decide_eq_false hl
              go_wp2_with fail
              go_roundg (64 - (i + 1))
              case measure => have := HA.out; omega
              case rel => exact ⟨i + 1, by go_num, Lib.hid ⟨by omega, rfl⟩, rfl⟩
        · have hxo : (padOf other).length = 64 := padOf_len h4n
          have HXO := Lib.hid hxo
          have HTK := Lib.hid (take_pad other h4n)
          have HNX := Lib.hid (tn_next HS8.out hk4)
          clear hxo HTR HC9 HXL hxe
          go_wp2_with fail
          refine (read_any w1.heap.size g r (boot D7) (((k : Int) + 1) % 4) _ HD9.out _ HNX.out).mono ?_
          rintro e w10 ⟨A6, d6, rfl, hd6, hc6, hb⟩
          have HB10 := Lib.hid (below_then HB9.out HB9.out.size hb)
          have hct := Kd.C_take hc6 (m := other.length) (by rw [HXO.out]; exact h4n)
          rw [HTK.out] at hct
          have hcv1 : ∀ m : Nat, (convert 29 9 (.slice A6 other.length d6)).run Try.prog (w10.drewN m) = .ok (.string (strOfNums other)) (w10.drewN m) := fun m => str_of hct (below_drewN (Below.refl _ _) m)
          have hcv2 : ∀ m : Nat, (convert 29 9 (.slice A4 other.length c4)).run Try.prog (w10.drewN m) = .ok (.string (strOfNums other)) (w10.drewN m) := fun m => str_of HQ4.out (below_drewN HB10.out m)
          have hq2 : ((strOfNums other).toList == (strOfNums other).toList) = true := by simp
          have hxe : (((padOf other).length : Int) == 64) = true := by rw [HXO.out]; rfl
          have hd6' : other.length ≤ d6 := by have : (padOf other).length ≤ d6 := hd6; have := HXO.out; omega
          clear hb hc6 hct hd6
          go_wp2_with fail
          go_quiet (fail)
          go_wp2_with fail
          go_ret
          exact ⟨rfl, below_then HB1.out HB1.out.size (below_drewN HB10.out _)⟩
end Go.Proofs.Ytacpeilgjaodbaa
