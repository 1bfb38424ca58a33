/- The law SectorCuts, walked. -/
import Derived.Test.YtacpeilgjaodbaaD8
namespace Go.Proofs.Ytacpeilgjaodbaa
open Go.RowKit Go.Proofs.YtacpeilgjaodbaaW.PrintWords Go.Proofs.YtacpeilgjaodbaaW.PrintLast Go.Proofs.YtacpeilgjaodbaaW.PrintMore
set_option linter.unusedVariables false
set_option linter.unusedSimpArgs false
/-- What the law says of the disk: two sectors, is it down, the cut, how many were written. -/
structure St (D : Dk) (down : Bool) (c : Option (Int × Int)) (m : Int) : Prop where
  n : D.n = 2
  down : D.down = down
  cut : D.cut = c
  wrote : D.wrote = m
theorem st_write {D : Dk} {c : Option (Int × Int)} {m : Int} (h : St D false c m) (j : Int) (h0 : 0 ≤ j) (h1 : j < 2) (b : List Int) (hb : b.length ≤ 64) : writeOf D j b = put D j.toNat b := by
  unfold writeOf
  rw [h.down, if_neg (by decide), if_neg (by omega), if_neg (by rw [h.n]; omega), if_neg (by omega)]
theorem st_some {D : Dk} {a k m : Int} (h : St D false (some (a, k)) m) (ha : a ≠ 0) (j : Int) (h0 : 0 ≤ j) (h1 : j < 2) (b : List Int) (hb : b.length ≤ 64) : ∃ D', writeOf D j b = (0, D') ∧ St D' false (some (a - 1, k)) (wrap64 (m + 1)) := by
  rw [st_write h j h0 h1 b hb]
  unfold put
  rw [h.cut]
  show ∃ D', (if a = 0 then _ else _) = (0, D') ∧ _
  rw [if_neg ha]
  exact ⟨_, rfl, h.n, h.down, rfl, by rw [← h.wrote]⟩
theorem st_none {D : Dk} {m : Int} (h : St D false none m) (j : Int) (h0 : 0 ≤ j) (h1 : j < 2) (b : List Int) (hb : b.length ≤ 64) : ∃ D', writeOf D j b = (0, D') ∧ St D' false none (wrap64 (m + 1)) := by
  rw [st_write h j h0 h1 b hb]
  unfold put
  rw [h.cut]
  exact ⟨_, rfl, h.n, h.down, rfl, by rw [← h.wrote]⟩
theorem st_cut {D : Dk} {k m : Int} (h : St D false (some (0, k)) m) (j : Int) (h0 : 0 ≤ j) (h1 : j < 2) (b : List Int) (hb : b.length ≤ 64) : ∃ D', writeOf D j b = (101, D') ∧ St D' true none m := by
  rw [st_write h j h0 h1 b hb]
  unfold put
  rw [h.cut]
  show ∃ D', (if (0 : Int) = 0 then _ else _) = (101, D') ∧ _
  rw [if_pos rfl]
  exact ⟨_, rfl, h.n, rfl, rfl, h.wrote⟩
theorem st_down {D : Dk} {m : Int} (h : St D true none m) (j : Int) (b : List Int) : writeOf D j b = (101, D) := by
  unfold writeOf; rw [h.down, if_pos rfl]
theorem st_boot {D : Dk} {d : Bool} {c : Option (Int × Int)} {m : Int} (h : St D d c m) : St (boot D) false none m := ⟨h.n, rfl, rfl, h.wrote⟩
/-- A write of one byte just made. -/
theorem write_one (B g r : Nat) (D D' : Dk) (j x e0 : Int) (hx : 0 ≤ x ∧ x ≤ 255) (he : writeOf D j [x] = (e0, D')) (w : World) (h : IsDisk w B g r D) :
    Calls Try.prog 18 #[.pointer (some ⟨g, 0, none⟩), .int .i64 j, .slice (some ⟨w.heap.size, 0, none⟩) 1 1] (w.alloc (.cells #[.int .u8 x] 5)) fun e w' => e = .returned (.int .i64 e0) ∧ IsDisk w' B g r D' ∧ Below B w w' := by
  have hbl := below_alloc (Below.refl w.heap.size w) (.cells #[.int .u8 x] 5)
  have hrow : (w.alloc (.cells #[.int .u8 x] 5)).heap[w.heap.size]? = some (.cells (([x] : List Int).map (Value.int .u8)).toArray 5 (0, 0)) := blk_new w _
  refine (write_any B g r D j (some ⟨w.heap.size, 0, none⟩) 1 [x] _ (h.below hbl) (fun y hy => by simp at hy; omega) (row_C hrow 0 1 (by simp) (by omega)) (e0, D') he).mono ?_
  rintro e w' ⟨h1, h2, h3⟩
  exact ⟨h1, h2, (below_then (Below.refl B w) h.lt hbl).trans h3⟩
theorem byte_wf {a : Int} (h : (Lit.int .u8 a).wf = true) : 0 ≤ a ∧ a ≤ 255 := by
  simp only [Lit.wf, IntKind.min, IntKind.max, IntKind.signed, IntKind.bits, Bool.and_eq_true, decide_eq_true_eq, Bool.false_eq_true, if_false] at h
  omega
set_option maxRecDepth 100000 in
set_option maxHeartbeats 8000000 in
theorem cuts_any (a0 a1 a2 : Int) (w : World) (h0 : (Lit.int .u8 a0).wf = true) (h1 : (Lit.int .u8 a1).wf = true) (h2 : (Lit.int .u8 a2).wf = true) :
    Calls Try.prog 6 #[.int .u8 a0, .int .u8 a1, .int .u8 a2] w fun e w' => e = .returned (.bool true) ∧ Below w.heap.size w w' := by
  have hb0 := byte_wf h0
  have hb1 := byte_wf h1
  have hb2 := byte_wf h2
  clear h0 h1 h2
  go_enter Try.func6, Try.ntmps6
  go_wp2_with fail
  refine (head_any _).mono ?_
  rintro e w1 ⟨rfl, hb⟩
  have HB1 := Lib.hid hb
  clear hb
  go_wp2_with fail
  refine (new_any 2 w1).mono ?_
  rintro e w2 ⟨g, r, rfl, hd, hb⟩
  have HD2 := Lib.hid hd
  have HB2 := Lib.hid hb
  clear hd hb
  go_wp2_with fail
  obtain ⟨kn, hkn⟩ := Int.eq_ofNat_of_zero_le (show 0 ≤ a0 % 20 by omega)
  have hk20 : kn < 20 := by omega
  rw [hkn]
  refine (cut_any w1.heap.size g r (new 2) (kn : Int) a1 w2 HD2.out (by omega)).mono ?_
  rintro e w3 ⟨⟨v3, rfl⟩, hd, hb⟩
  obtain ⟨cl, hcl⟩ : ∃ cl, clamp a1 = cl := ⟨_, rfl⟩
  have HD3 : Hid (∃ D, IsDisk w3 w1.heap.size g r D ∧ St D false (some ((kn : Int) - ((0 : Nat) : Int), cl)) ((0 : Nat) : Int)) := Lib.hid ⟨_, hd, by
    have e : cut (new 2) (kn : Int) a1 = { new 2 with cut := some ((kn : Int), clamp a1) } := by unfold cut; rw [if_pos (by omega)]
    rw [e, hcl]
    exact ⟨(show manyOf 2 = 2 by decide), rfl, by simp, rfl⟩⟩
  have HB3 := Lib.hid (HB2.out.trans hb)
  clear hd hb HD2 HB2 hcl hb0 hkn
  go_wp2_with fail
  go_loopg [10] kn (fun kq v10 w' => ∃ i : Nat, v10 = .int .i64 (i : Int) ∧ Hid (i ≤ kn ∧ kq = kn - i) ∧ Hid (∃ D, IsDisk w' w1.heap.size g r D ∧ St D false (some ((kn : Int) - (i : Int), cl)) (i : Int)) ∧ Hid (Below w1.heap.size w1 w'))
  case atStart => exact ⟨0, rfl, Lib.hid ⟨by omega, by omega⟩, HD3, HB3⟩
  case round =>
    clear HD3 HB3
    obtain ⟨i, rfl, HA, HD, HB⟩ := hrel
    by_cases hi : i < kn
    · have hii : (i : Int) < (kn : Int) := by omega
      obtain ⟨D, hD, hS⟩ := HD.out
      obtain ⟨D', he, hS'⟩ := st_some hS (by omega) ((i : Int) % 2) (by omega) (by omega) [(i : Int)] (by simp)
      have HE := Lib.hid he
      have HDD := Lib.hid hD
      have HS' : Hid (St D' false (some ((kn : Int) - ((i + 1 : Nat) : Int), cl)) ((i + 1 : Nat) : Int)) := Lib.hid (by
        have e1 : wrap64 ((i : Int) + 1) = ((i + 1 : Nat) : Int) := by unfold wrap64; omega
        have e2 : (kn : Int) - (i : Int) - 1 = (kn : Int) - ((i + 1 : Nat) : Int) := by omega
        rw [e1, e2] at hS'
        exact hS')
      clear hD hS he hS' HD
      go_wp2_with fail
      refine (write_one w1.heap.size g r D D' ((i : Int) % 2) (i : Int) 0 (by omega) HE.out wr HDD.out).mono ?_
      rintro e w5 ⟨rfl, hd, hb⟩
      have HD5 := Lib.hid hd
      have HB5 := Lib.hid (HB.out.trans hb)
      clear hd hb HDD HE HB
      go_wp2_with fail
      refine (down_any w1.heap.size g r D' w5 HD5.out).mono ?_
      rintro e w6 ⟨rfl, rfl⟩
      rw [HS'.out.down]
      go_wp2_with fail
      go_roundg (kn - (i + 1))
      case measure => have := HA.out; omega
      case rel => exact ⟨i + 1, by go_num, Lib.hid ⟨by omega, rfl⟩, Lib.hid ⟨D', HD5.out, HS'.out⟩, HB5⟩
    · obtain rfl : i = kn := by have := HA.out; omega
      have HI : Hid (∃ D, IsDisk wr w1.heap.size g r D ∧ (St D false (some (0, cl)) (i : Int) ∨ St D true none (i : Int))) := Lib.hid (by
        obtain ⟨D, hD, hS⟩ := HD.out
        rw [show (i : Int) - (i : Int) = 0 by omega] at hS
        exact ⟨D, hD, Or.inl hS⟩)
      obtain ⟨mn, hmn⟩ := Int.eq_ofNat_of_zero_le (show 0 ≤ a2 % 5 by omega)
      have hm5 : mn < 5 := by omega
      have hmt : a2.tmod 5 = (mn : Int) := by rw [Int.tmod_eq_emod_of_nonneg hb2.1]; exact hmn
      clear HD hb2 hi hmn
      go_wp2_with fail
      go_loopg [11] (mn + 1) (fun kq v11 w' => ∃ j : Nat, v11 = .int .i64 (j : Int) ∧ Hid (j ≤ mn + 1 ∧ kq = mn + 1 - j) ∧ Hid (∃ D, IsDisk w' w1.heap.size g r D ∧ (St D false (some (0, cl)) (i : Int) ∨ St D true none (i : Int))) ∧ Hid (Below w1.heap.size w1 w'))
      case atStart => exact ⟨0, rfl, Lib.hid ⟨by omega, by omega⟩, HI, HB⟩
      case round =>
        clear HI HB HA
        obtain ⟨j, rfl, HA, HD, HB⟩ := hrel
        obtain ⟨D, hD, hS⟩ := HD.out
        have HDD := Lib.hid hD
        by_cases hj : (j : Int) < 1 + (mn : Int)
        · have hjN : j < 1 + mn := by omega
          have hjd : decide (j < 1 + mn) = true := decide_eq_true hjN
          have hjd2 : decide ((j : Int) < 1 + (mn : Int)) = true := decide_eq_true hj
          obtain ⟨D', he, hS'⟩ : ∃ D', writeOf D 0 [1] = (101, D') ∧ St D' true none (i : Int) := by
            rcases hS with hS | hS
            · exact st_cut hS 0 (by omega) (by omega) [1] (by simp)
            · exact ⟨D, st_down hS 0 [1], hS⟩
          have HE := Lib.hid he
          have HS' := Lib.hid hS'
          clear hD hS he hS' HD
          go_wp2_with fail
          refine (write_one w1.heap.size g r D D' 0 1 101 (by omega) HE.out _ HDD.out).mono ?_
          rintro e w5 ⟨rfl, hd, hb⟩
          have HD5 := Lib.hid hd
          have HB5 := Lib.hid (HB.out.trans hb)
          clear hd hb HDD HE HB
          go_wp2_with fail
          refine (down_any w1.heap.size g r D' w5 HD5.out).mono ?_
          rintro e w6 ⟨rfl, rfl⟩
          rw [HS'.out.down]
          go_wp2_with fail
          refine (writes_any w1.heap.size g r D' w5 HD5.out).mono ?_
          rintro e w6 ⟨rfl, rfl⟩
          rw [HS'.out.wrote]
          go_wp2_with fail
          go_roundg (mn + 1 - (j + 1))
          case measure => have := HA.out; omega
          case rel => exact ⟨j + 1, by go_num, Lib.hid ⟨by omega, rfl⟩, Lib.hid ⟨D', HD5.out, Or.inr HS'.out⟩, HB5⟩
        · have hjd : decide (j < 1 + mn) = false := decide_eq_false (by omega)
          have hjd2 : decide ((j : Int) < 1 + (mn : Int)) = false := decide_eq_false hj
          have HSB : Hid (St (boot D) false none (i : Int)) := Lib.hid (by rcases hS with hS | hS <;> exact st_boot hS)
          obtain ⟨D', he, hS'⟩ := st_none HSB.out 0 (by omega) (by omega) [1] (by simp)
          have HE := Lib.hid he
          have HS' := Lib.hid hS'
          clear hD hS he hS' HD
          go_wp2_with fail
          refine (boot_any w1.heap.size g r D _ HDD.out).mono ?_
          rintro e w5 ⟨⟨v5, rfl⟩, hd, hb⟩
          have HD5 := Lib.hid hd
          have HB5 := Lib.hid (HB.out.trans hb)
          clear hd hb HDD HB
          go_wp2_with fail
          refine (write_one w1.heap.size g r (boot D) D' 0 1 0 (by omega) HE.out w5 HD5.out).mono ?_
          rintro e w6 ⟨rfl, hd, hb⟩
          have HD6 := Lib.hid hd
          have HB6 := Lib.hid (HB5.out.trans hb)
          clear hd hb HD5 HE HB5
          go_wp2_with fail
          refine (writes_any w1.heap.size g r D' w6 HD6.out).mono ?_
          rintro e w7 ⟨rfl, rfl⟩
          rw [HS'.out.wrote, show wrap64 ((i : Int) + 1) = (i : Int) + 1 by unfold wrap64; omega]
          have hqq : ((i : Int) + 1 == (i : Int) + 1) = true := by simp
          go_wp2_with fail
          go_ret
          exact ⟨rfl, below_then HB1.out HB1.out.size HB6.out⟩
end Go.Proofs.Ytacpeilgjaodbaa
