/- The law SectorWrites, walked. -/
import Derived.Test.YtacpeilgjaodbaaGR
namespace Go.Proofs.Ytacpeilgjaodbaa
open Go.RowKit Go.Proofs.YtacpeilgjaodbaaW.PrintWords Go.Proofs.YtacpeilgjaodbaaW.PrintLast Go.Proofs.YtacpeilgjaodbaaW.PrintMore
attribute [local go_sem] max2_int min2_int max_two min_two
set_option linter.unusedVariables false
set_option linter.unusedSimpArgs false
/-- What the law says of the disk. -/
structure Wr (D : Dk) (n : Nat) (m : Int) : Prop where
  n : D.n = n
  down : D.down = false
  cut : D.cut = none
  wrote : D.wrote = m
theorem byte_wf' {a : Int} (h : (Lit.int .u8 a).wf = true) : 0 ≤ a ∧ a ≤ 255 := by
  simp only [Lit.wf, IntKind.min, IntKind.max, IntKind.signed, IntKind.bits, Bool.and_eq_true, decide_eq_true_eq, Bool.false_eq_true, if_false] at h
  omega
theorem wr_fine {D : Dk} {n : Nat} {m : Int} {at_ : Int} {b : List Int} (h : Wr D n m) (hl : D.rows.length = 64 * D.n) (h0 : 0 ≤ at_) (h1 : at_ < (n : Int)) (h2 : b.length ≤ 64) (hm : 0 ≤ m ∧ m ≤ 1000) : ∃ D', writeOf D at_ b = (0, D') ∧ Wr D' n (m + 1) := by
  obtain ⟨D', e, h3, h4, h5, h6, _, _⟩ := write_fine D at_ b hl h.down h.cut h0 (by rw [h.n]; exact h1) h2
  exact ⟨D', e, h3.trans h.n, h4, h5, by rw [h6, h.wrote]; unfold wrap64; omega⟩
theorem wr_not {D : Dk} {n : Nat} {m : Int} {at_ : Int} {b : List Int} (h : Wr D n m) (hn : ¬ (0 ≤ at_ ∧ at_ < (n : Int) ∧ b.length ≤ 64)) : writeOf D at_ b = (1, D) := by
  unfold writeOf
  rw [h.down, h.n, if_neg (by decide)]
  by_cases h1 : at_ < 0
  · rw [if_pos h1]
  rw [if_neg h1]
  by_cases h2 : (n : Int) ≤ at_
  · rw [if_pos h2]
  rw [if_neg h2, if_pos (by omega)]
theorem read_or {D : Dk} (at_ : Int) (hd : D.down = false) (hl : D.rows.length = 64 * D.n) : ∃ x e, readOf D at_ = (x, e) ∧ ((e = 0 ∧ x.length = 64) ∨ (e = 1 ∧ x.length = 0)) := by
  unfold readOf
  rw [hd, if_neg (by decide)]
  by_cases h1 : at_ < 0
  · rw [if_pos h1]; exact ⟨_, _, rfl, Or.inr ⟨rfl, rfl⟩⟩
  rw [if_neg h1]
  by_cases h2 : (D.n : Int) ≤ at_
  · rw [if_pos h2]; exact ⟨_, _, rfl, Or.inr ⟨rfl, rfl⟩⟩
  rw [if_neg h2]
  exact ⟨_, _, rfl, Or.inl ⟨rfl, by unfold sect; rw [List.length_take, List.length_drop, hl]; omega⟩⟩
set_option maxRecDepth 100000 in
set_option maxHeartbeats 8000000 in
theorem writes_law (a0 : Int) (A : Option Addr) (c : Nat) (l : List QA.S31) (w : World) (ha : (Lit.int .u8 a0).wf = true) (hr : Kd.C QA.k31 w A l.length l) (hc : l.length ≤ c)
    (hw : l.length ≤ maxLen ∧ ∀ x0 ∈ l, ((Lit.int .i64 x0.f0).wf = true) ∧ ((Lit.int .i64 x0.f1).wf = true) ∧ ((Lit.int .i64 x0.f2).wf = true) ∧ (x0.f3.length ≤ maxLen ∧ ∀ x1 ∈ x0.f3, (Lit.int .u8 x1).wf = true)) :
    Calls Try.prog 7 #[.int .u8 a0, .slice A l.length c] w fun e w' => e = .returned (.bool true) ∧ Below w.heap.size w w' := by
  have HR := Lib.hid hr
  have HO := Lib.hid (ops_of hw)
  have hb0 := byte_wf' ha
  obtain ⟨mx, hmx⟩ : ∃ mx, manyOf a0 = mx := ⟨_, rfl⟩
  have hmx2 : (mx : Int) = max a0 1 := by rw [← hmx]; unfold manyOf; omega
  have hmxi : (if a0 < 1 then (1 : Int) else a0) = (mx : Int) := by rw [hmx2, Int.max_def]; split <;> split <;> omega
  have HMX := Lib.hid hmx
  have hm1 : 1 ≤ mx := by omega
  have hm2 : mx ≤ 256 := by omega
  clear hr hw ha hmx hmx2
  go_enter Try.func7, Try.ntmps7
  go_wp2_with fail
  refine (head_any _).mono ?_
  rintro e w1 ⟨rfl, hb1⟩
  have HB1 := Lib.hid hb1
  have HQ := Lib.hid (Kd.C_below HR.out hb1)
  clear hb1 HR
  go_wp2_with fail
  refine (new_any a0 w1).mono ?_
  rintro e w2 ⟨g, r, rfl, hd, hb⟩
  have HB2 := Lib.hid hb
  have HD2 : Hid (∃ D, IsDisk w2 w1.heap.size g r D ∧ Wr D mx 0) := Lib.hid ⟨_, hd, HMX.out, rfl, rfl, rfl⟩
  clear hb hd
  go_wp2_with fail
  refine (great_any A c l w2 (Kd.C_below HQ.out HB2.out) hc).mono ?_
  rintro e w3 ⟨r3, rfl, hgreat, hb⟩
  have HB3 := Lib.hid (below_then HB2.out HB2.out.size hb)
  have HD3 : Hid (∃ D, IsDisk w3 w1.heap.size g r D ∧ Wr D mx 0) := Lib.hid (by obtain ⟨D, h1, h2⟩ := HD2.out; exact ⟨D, h1.below hb, h2⟩)
  clear hb HD2 HB2
  cases r3 with
  | true =>
    clear hgreat
    go_wp2_with fail
    go_ret
    exact ⟨rfl, below_then HB1.out HB1.out.size HB3.out⟩
  | false =>
    have HG := Lib.hid (hgreat rfl)
    clear hgreat
    go_wp2_with fail
    go_loopg [7, 8] l.length (fun kq v7 v8 w' => ∃ (i n : Nat), v8 = .int .i64 (i : Int) ∧ v7 = .int .i64 (n : Int) ∧ Hid (i ≤ l.length ∧ kq = l.length - i ∧ n ≤ i) ∧ Hid (∃ D, IsDisk w' w1.heap.size g r D ∧ Wr D mx (n : Int)) ∧ Hid (Below w1.heap.size w1 w'))
    case atStart => exact ⟨0, 0, rfl, rfl, Lib.hid ⟨by omega, by omega, by simp⟩, HD3, HB3⟩
    case round =>
      clear HD3 HB3
      obtain ⟨i, n, rfl, rfl, HA, HD, HB⟩ := hrel
      by_cases hi : (i : Int) < (l.length : Int)
      · have hiN : i < l.length := by omega
        have hl400 : l.length ≤ 400 := HG.out.1
        have hn400 : n ≤ 400 := by have := HA.out; omega
        have HBY := Lib.hid (HO.out.byt i hiN)
        obtain ⟨ad, A1, c1, rfl, hf0, hf1, hf2, hf3, hcl, hC1⟩ := QA.at_T31 (Kd.C_below HQ.out HB.out) (i : Int) (by omega) hi
        simp only [Int.toNat_natCast] at hf0 hf1 hf2 hf3
        obtain ⟨x, hx⟩ : ∃ x, QA.rd_T31 l (i : Int) = x := ⟨_, rfl⟩
        rw [hx] at hf0 hf1 hf2 hf3 hcl hC1 HBY
        obtain ⟨f, at_, nn, b⟩ := x
        simp only at hf0 hf1 hf2 hf3 hcl hC1 HBY
        have HC1 := Lib.hid hC1
        obtain ⟨D, hD, hW⟩ := HD.out
        have hDl := hD.len
        by_cases h2 : f = 2
        · subst h2
          obtain ⟨x, e0, hro, hor⟩ := read_or (D := D) at_ hW.down hDl
          have HRO := Lib.hid hro
          have HDD := Lib.hid hD
          have HW := Lib.hid hW
          clear hro hD hW HD hDl hC1 hx hcl HC1 HBY
          go_wp2_with fail
          refine (read_any w1.heap.size g r D at_ _ (HDD.out.below (below_alloc (Below.refl _ _) _)) _ HRO.out).mono ?_
          rintro e w5 ⟨A5, d5, rfl, hd5, hc5, hb⟩
          have hblk := blk_below (blk_new wr _) hb
          have hal := below_alloc HB.out (.cells #[.int .i64 2, .int .i64 at_, .int .i64 nn, .slice A1 b.length c1] 31)
          have hb5 := below_then hal hal.size hb
          have ho1 : w5.cell? ⟨wr.heap.size, 1, none⟩ = some (.int .i64 at_) := (blk_cell hblk 1).trans rfl
          have HB5 := Lib.hid hb5
          have HDD5 := Lib.hid ((HDD.out.below (below_alloc (Below.refl _ _) _)).below hb)
          have HC5 := Lib.hid hc5
          clear hblk hal hb5 hb hc5 hf0 hf1 hf2 hf3 HDD HB
          go_wp2_with fail
          refine (read_any w1.heap.size g r D at_ _ HDD5.out _ HRO.out).mono ?_
          rintro e w6 ⟨A6, d6, rfl, hd6, hc6, hb⟩
          have HB6 := Lib.hid (below_then HB5.out HB5.out.size hb)
          have HDD6 := Lib.hid (HDD5.out.below hb)
          have hcv1 : (convert 29 9 (.slice A5 x.length d5)).run Try.prog w6 = .ok (.string (strOfNums x)) w6 := str_of HC5.out hb
          have hcv2 : (convert 29 9 (.slice A6 x.length d6)).run Try.prog w6 = .ok (.string (strOfNums x)) w6 := str_of hc6 (Below.refl _ _)
          have hq2 : ((strOfNums x).toList != (strOfNums x).toList) = false := by simp
          clear hb hc6 HB5 HDD5 HC5 ho1
          rcases hor with ⟨rfl, hxl⟩ | ⟨rfl, hxl⟩
          · have hxe2 : ((x.length : Int) == 64) = true := by rw [hxl]; rfl
            clear hxl
            go_wp2_with fail
            go_roundg (l.length - (i + 1))
            case measure => have := HA.out; omega
            case rel => exact ⟨i + 1, n, by go_num, rfl, Lib.hid ⟨by omega, rfl, by have := HA.out; omega⟩, Lib.hid ⟨D, HDD6.out, HW.out⟩, HB6⟩
          · have hxe2 : ((x.length : Int) == 64) = false := by rw [hxl]; rfl
            clear hxl
            go_wp2_with fail
            go_roundg (l.length - (i + 1))
            case measure => have := HA.out; omega
            case rel => exact ⟨i + 1, n, by go_num, rfl, Lib.hid ⟨by omega, rfl, by have := HA.out; omega⟩, Lib.hid ⟨D, HDD6.out, HW.out⟩, HB6⟩
        · have hf2' : (f == 2) = false := beq_eq_false_iff_ne.mpr h2
          have HDD := Lib.hid hD
          have HW := Lib.hid hW
          by_cases hfine : 0 ≤ at_ ∧ at_ < (mx : Int) ∧ b.length ≤ 64
          · obtain ⟨hn0, hn1, hn2⟩ := hfine
            obtain ⟨D', he, hW'⟩ := wr_fine hW hDl hn0 hn1 hn2 (m := (n : Int)) (by omega)
            have HE := Lib.hid he
            have HW' := Lib.hid hW'
            have hn2i : (b.length : Int) ≤ 64 := by omega
            clear he hW' hD hW HD hDl hC1 hx hcl h2
            go_wp2_with fail
            refine (write_any w1.heap.size g r D at_ A1 c1 b _ (HDD.out.below (below_alloc (Below.refl _ _) _)) HBY.out (Kd.C_below HC1.out (below_alloc (Below.refl _ _) _)) _ HE.out).mono ?_
            rintro e w5 ⟨rfl, hd, hb, hkt⟩
            have hblk := hkt.cells (blk_new wr _) (by decide)
            have hal := below_alloc HB.out (.cells #[.int .i64 f, .int .i64 at_, .int .i64 nn, .slice A1 b.length c1] 31)
            have HB5 := Lib.hid (hal.trans hb)
            have HDD5 := Lib.hid hd
            have ho1 : w5.cell? ⟨wr.heap.size, 1, none⟩ = some (.int .i64 at_) := (blk_cell hblk 1).trans rfl
            have ho3 : w5.cell? ⟨wr.heap.size, 3, none⟩ = some (.slice A1 b.length c1) := (blk_cell hblk 3).trans rfl
            clear hkt hblk hal hd hb hf0 hf1 hf2 hf3 HDD HB HC1
            go_wp2_with fail
            go_roundg (l.length - (i + 1))
            case measure => have := HA.out; omega
            case rel => exact ⟨i + 1, n + 1, by go_num, by go_num, Lib.hid ⟨by omega, rfl, by have := HA.out; omega⟩, Lib.hid ⟨D', HDD5.out, HW'.out⟩, HB5⟩
          · have he := wr_not hW hfine
            have HE := Lib.hid he
            have HF := Lib.hid hfine
            clear he hfine hD hW HD hDl hC1 hx hcl h2
            go_wp2_with fail
            refine (write_any w1.heap.size g r D at_ A1 c1 b _ (HDD.out.below (below_alloc (Below.refl _ _) _)) HBY.out (Kd.C_below HC1.out (below_alloc (Below.refl _ _) _)) _ HE.out).mono ?_
            rintro e w5 ⟨rfl, hd, hb, hkt⟩
            have hblk := hkt.cells (blk_new wr _) (by decide)
            have hal := below_alloc HB.out (.cells #[.int .i64 f, .int .i64 at_, .int .i64 nn, .slice A1 b.length c1] 31)
            have HB5 := Lib.hid (hal.trans hb)
            have HDD5 := Lib.hid hd
            have ho1 : w5.cell? ⟨wr.heap.size, 1, none⟩ = some (.int .i64 at_) := (blk_cell hblk 1).trans rfl
            have ho3 : w5.cell? ⟨wr.heap.size, 3, none⟩ = some (.slice A1 b.length c1) := (blk_cell hblk 3).trans rfl
            clear hkt hblk hal hd hb hf0 hf1 hf2 hf3 HDD HB HC1
            by_cases hk0 : 0 ≤ at_
            · by_cases hk1 : at_ < (mx : Int)
              · have hk2 : (64 : Int) < b.length := by have := HF.out; omega
                go_wp2_with fail
                go_roundg (l.length - (i + 1))
                case measure => have := HA.out; omega
                case rel => exact ⟨i + 1, n, by go_num, rfl, Lib.hid ⟨by omega, rfl, by have := HA.out; omega⟩, Lib.hid ⟨D, HDD5.out, HW.out⟩, HB5⟩
              · have hk1' : decide (at_ < (mx : Int)) = false := decide_eq_false hk1
                go_wp2_with fail
                go_roundg (l.length - (i + 1))
                case measure => have := HA.out; omega
                case rel => exact ⟨i + 1, n, by go_num, rfl, Lib.hid ⟨by omega, rfl, by have := HA.out; omega⟩, Lib.hid ⟨D, HDD5.out, HW.out⟩, HB5⟩
            · have hk0' : decide (0 ≤ at_) = false := decide_eq_false hk0
              go_wp2_with fail
              go_roundg (l.length - (i + 1))
              case measure => have := HA.out; omega
              case rel => exact ⟨i + 1, n, by go_num, rfl, Lib.hid ⟨by omega, rfl, by have := HA.out; omega⟩, Lib.hid ⟨D, HDD5.out, HW.out⟩, HB5⟩
      · have HB' := HB
        obtain ⟨D, hD, hW⟩ := HD.out
        have HDD := Lib.hid hD
        have HW := Lib.hid hW
        clear HD hD hW HG HO HQ
        go_wp2_with fail
        refine (writes_any w1.heap.size g r D wr HDD.out).mono ?_
        rintro e w5 ⟨rfl, rfl⟩
        rw [HW.out.wrote]
        have hqq : ((n : Int) == (n : Int)) = true := by simp
        go_wp2_with fail
        refine (many_any w1.heap.size g r D wr HDD.out).mono ?_
        rintro e w5 ⟨rfl, rfl⟩
        rw [HW.out.n]
        have hqm : ((mx : Int) == (mx : Int)) = true := by simp
        go_wp2_with fail
        go_ret
        exact ⟨rfl, below_then HB1.out HB1.out.size HB'.out⟩
end Go.Proofs.Ytacpeilgjaodbaa
