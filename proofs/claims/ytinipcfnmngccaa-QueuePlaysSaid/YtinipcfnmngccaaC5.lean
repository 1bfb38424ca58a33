/- The law QueueKeeps, walked. -/
import Derived.Test.YtinipcfnmngccaaC4
namespace Go.Proofs.Ytinipcfnmngccaa
open Go.Conc Go.RowKit Go.Proofs.YtinipcfnmngccaaW.PrintWords Go.Proofs.YtinipcfnmngccaaW.PrintLast
set_option linter.unusedVariables false
set_option linter.unusedSimpArgs false
def lsum : List Int → Int
  | [] => 0
  | x :: l => x + lsum l
theorem lsum_snoc (l : List Int) (x : Int) : lsum (l ++ [x]) = lsum l + x := by
  induction l with
  | nil => simp [lsum]
  | cons y l ih => simp [lsum, ih]; omega
def Small (l : List Int) : Prop := ∀ x ∈ l, -1000 < x ∧ x < 1000
theorem Small.snoc {l : List Int} {x : Int} (h : Small l) (hx : -1000 < x ∧ x < 1000) : Small (l ++ [x]) := fun y hy => by
  rcases List.mem_append.1 hy with hy | hy
  · exact h y hy
  · rw [List.mem_singleton.1 hy]; exact hx
theorem lsum_small (l : List Int) (h : Small l) : -(1000 * (l.length : Int)) ≤ lsum l ∧ lsum l ≤ 1000 * (l.length : Int) := by
  induction l with
  | nil => simp [lsum]
  | cons x l ih =>
    have h1 := h x (by simp)
    have h2 := ih (fun y hy => h y (by simp [hy]))
    simp only [lsum, List.length_cons]
    omega
/-- What a put makes of what waits. -/
theorem keeps_put (us os : List Int) (u : Bool) (y : Int) (hu : us.length ≤ 64) (ho : os.length ≤ 64) (sy : -1000 < y ∧ y < 1000) (su : Small us) (so : Small os) :
    ∃ us' os', (qput 64 u y us os = (true, us', os') ∧ lsum us' + lsum os' = lsum us + lsum os + y ∧ us'.length + os'.length = us.length + os.length + 1 ∨ qput 64 u y us os = (false, us', os') ∧ us' = us ∧ os' = os) ∧ us'.length ≤ 64 ∧ os'.length ≤ 64 ∧ Small us' ∧ Small os' := by
  cases u with
  | true =>
    by_cases h : us.length < 64
    · exact ⟨us ++ [y], os, .inl ⟨by simp [qput, h], by rw [lsum_snoc]; omega, by simp; omega⟩, by simp; omega, ho, su.snoc sy, so⟩
    · exact ⟨us, os, .inr ⟨by simp [qput, h], rfl, rfl⟩, hu, ho, su, so⟩
  | false =>
    by_cases h : os.length < 64
    · exact ⟨us, os ++ [y], .inl ⟨by simp [qput, h], by rw [lsum_snoc]; omega, by simp; omega⟩, hu, by simp; omega, su, so.snoc sy⟩
    · exact ⟨us, os, .inr ⟨by simp [qput, h], rfl, rfl⟩, hu, ho, su, so⟩
theorem keeps_take (us os : List Int) (hu : us.length ≤ 64) (ho : os.length ≤ 64) (su : Small us) (so : Small os) (hp : 0 < us.length + os.length) :
    ∃ y us' os', qtake 0 us os = (y, true, us', os') ∧ lsum us' + lsum os' = lsum us + lsum os - y ∧ us'.length + os'.length + 1 = us.length + os.length ∧ (-1000 < y ∧ y < 1000) ∧ us'.length ≤ 64 ∧ os'.length ≤ 64 ∧ Small us' ∧ Small os' := by
  cases us with
  | cons x us => exact ⟨x, us, os, rfl, by simp only [lsum]; omega, by simp; omega, su x (by simp), by simp at hu; omega, ho, fun y hy => su y (by simp [hy]), so⟩
  | nil =>
    cases os with
    | cons x os => exact ⟨x, [], os, rfl, by simp only [lsum]; omega, by simp, so x (by simp), by simp, by simp at ho; omega, su, fun y hy => so y (by simp [hy])⟩
    | nil => simp at hp
set_option maxRecDepth 100000 in
set_option maxHeartbeats 4000000 in
theorem keeps_any (A : Option Addr) (c : Nat) (l : List S29) (w : World) (hr : Kd.C k29 w A l.length l) (hc : l.length ≤ c) (_ : OpsOk l) :
    Calls Try.prog 7 #[.slice A l.length c] w fun e w' => e = .returned (.bool true) ∧ Below w.heap.size w w' := by
  have HR := Lib.hid hr
  clear hr
  go_enter Try.func7, Try.ntmps7
  go_wp2_with fail
  refine (head_any w).mono ?_
  rintro e w1 ⟨rfl, hb⟩
  have HB1 := Lib.hid hb
  clear hb
  go_wp2_with fail
  refine (new_int 64 w1).mono ?_
  rintro e w2 ⟨q, b1, b2, rfl, hq, hb, hq0, hq1, hq2⟩
  rw [show room 64 = 64 from by decide] at hq
  have HQ := Lib.hid hq
  have HB := Lib.hid (below_step HB1.out hb)
  replace hq1 : w.heap.size ≤ b1 := Nat.le_trans HB1.out.size hq1
  replace hq2 : w.heap.size ≤ b2 := Nat.le_trans HB1.out.size hq2
  clear hq hb HB1 hq0
  by_cases hl : (1000 : Int) < (l.length : Int)
  · have hl' : decide ((1000 : Int) < (l.length : Int)) = true := decide_eq_true hl
    clear hq1 hq2
    go_wp2_with fail
    go_ret
    exact ⟨rfl, HB.out⟩
  · have hl' : decide ((1000 : Int) < (l.length : Int)) = false := decide_eq_false hl
    have hln : l.length ≤ 1000 := by omega
    go_wp2_with fail
    go_loopw [5, 6, 7] (fun v5 v6 v7 wr => ∃ (i : Nat) (s : Int) (m : Nat) (us os : List Int), i ≤ l.length ∧ v7 = .int .i64 i ∧ v5 = .int .i64 s ∧ v6 = .int .i64 m ∧ -200000 ≤ s ∧ s ≤ 200000 ∧ m ≤ 128 ∧ Hid (s = lsum us + lsum os) ∧ Hid (m = us.length + os.length) ∧ us.length ≤ 64 ∧ os.length ≤ 64 ∧ Hid (Small us) ∧ Hid (Small os) ∧ Hid (IsQ 48 (Value.int .i64) wr q b1 b2 64 us os) ∧ Hid (Below w.heap.size w wr)) (fun _ _ v _ => l.length - (intOf v).toNat)
    case atStart => exact ⟨0, 0, 0, [], [], by omega, rfl, rfl, rfl, by omega, by omega, by omega, Lib.hid rfl, Lib.hid rfl, by simp, by simp, Lib.hid (fun x h => by cases h), Lib.hid (fun x h => by cases h), HQ, HB⟩
    case round =>
      clear HQ HB
      obtain ⟨i, s, m, us, os, hi, rfl, rfl, rfl, hs0, hs1, hm0, hs, hm, hu, ho, su, so, hq, hb⟩ := hrel
      by_cases hlt : i < l.length
      · obtain ⟨ad, rfl, h0, h1, h2⟩ := at_T29 HR.out (i : Int) (by omega) (by omega)
        simp only [Int.toNat_natCast] at h0 h1 h2
        have hx := op_keeps h0 h1 h2
        clear h0 h1 h2
        generalize rd_T29 l i = x at hx
        obtain ⟨x0, u, x2⟩ := x
        obtain ⟨hx0, hx1, hx2⟩ := hx _ hb.out
        simp only at hx0 hx1 hx2
        clear hx
        obtain ⟨y, hy⟩ : ∃ y, Int.tmod x2 1000 = y := ⟨_, rfl⟩
        have hyn : y.natAbs < 1000 := by rw [← hy, Int.natAbs_tmod]; exact Nat.mod_lt _ (by decide)
        have hy0 : -1000 < y := by omega
        have hy1 : y < 1000 := by omega
        clear hyn
        by_cases h3 : x0 < 3
        · obtain ⟨us', os', hput, HU3, HO3, hsu, hso⟩ := keeps_put us os u y hu ho ⟨hy0, hy1⟩ su.out so.out
          have HW3 := Lib.hid hsu
          have HX3 := Lib.hid hso
          clear hsu hso
          rcases hput with ⟨hp, hs', hm'⟩ | ⟨hp, rfl, rfl⟩
          · have HP := Lib.hid (put_to hq.out hp)
            have HS3 : Hid (s + y = lsum us' + lsum os') := Lib.hid (by have := hs.out; omega)
            have HM3 : Hid ((m : Int) + 1 = (us'.length : Int) + (os'.length : Int)) := Lib.hid (by have := hm.out; omega)
            have hbd1 := lsum_small us' HW3.out
            have hbd2 := lsum_small os' HX3.out
            have hb1' : -200000 ≤ s + y := by have := hs.out; omega
            have hb2' : s + y ≤ 200000 := by have := hs.out; omega
            have hm1 : m + 1 ≤ 128 := by have := hm.out; omega
            clear hp hs' hm' hbd1 hbd2
            go_wp2_with fail
            refine HP.out.mono ?_
            rintro e w3 ⟨rfl, hq3, hon⟩
            have HQ3 := Lib.hid hq3
            have HB3 := Lib.hid (hb.out.trans (hon.below hq1 hq2))
            clear hq3 hon HP hx0 hx1 hx2
            have hmn := many_int q b1 b2 64 (us') (os') w3 HQ3.out
            obtain ⟨a, ha⟩ : ∃ a, (us').length = a := ⟨_, rfl⟩
            obtain ⟨c', hc'⟩ : ∃ a, (os').length = a := ⟨_, rfl⟩
            rw [ha, hc'] at hmn
            have hsum : ((a : Int) + (c' : Int) != ((m : Int) + 1)) = false := by rw [bne_eq_false_iff_eq, ← ha, ← hc']; have := HM3.out; omega
            have haa : a ≤ 64 := by rw [← ha]; exact HU3
            have hcc : c' ≤ 64 := by rw [← hc']; exact HO3
            have HMN := Lib.hid hmn
            have hzz : ((m : Int) + 1) = 0 → (s + y) = 0 := fun h => by
              have h1 := HM3.out
              have e1 : (us') = [] := List.eq_nil_of_length_eq_zero (by omega)
              have e2 : (os') = [] := List.eq_nil_of_length_eq_zero (by omega)
              have h2 := HS3.out
              rw [e1, e2] at h2
              exact h2
            clear ha hc' hmn
            by_cases hz : ((m : Int) + 1) = 0
            · have hz2 : ((s + y) != 0) = false := by rw [hzz hz]; rfl
              have hz1 : (((m : Int) + 1) == 0) = true := by rw [hz]; rfl
              clear hzz hz

              go_wp2_with fail
              refine HMN.out.mono ?_
              rintro e w5 ⟨rfl, d, rfl⟩
              go_wp2_with fail
              go_roundw
              case rel => exact ⟨i + 1, (s + y), m + 1, us', os', by omega, by go_num, rfl, by go_num, by omega, by omega, by omega, HS3, Lib.hid (by have := HM3.out; omega), HU3, HO3, HW3, HX3, Lib.hid (HQ3.out.drewN d), Lib.hid (below_drewN HB3.out d)⟩
              case measure => simp [intOf]; omega
            · have hz1 : (((m : Int) + 1) == 0) = false := beq_eq_false_iff_ne.mpr hz
              clear hzz hz

              go_wp2_with fail
              refine HMN.out.mono ?_
              rintro e w5 ⟨rfl, d, rfl⟩
              go_wp2_with fail
              go_roundw
              case rel => exact ⟨i + 1, (s + y), m + 1, us', os', by omega, by go_num, rfl, by go_num, by omega, by omega, by omega, HS3, Lib.hid (by have := HM3.out; omega), HU3, HO3, HW3, HX3, Lib.hid (HQ3.out.drewN d), Lib.hid (below_drewN HB3.out d)⟩
              case measure => simp [intOf]; omega
          · have HP := Lib.hid (put_to hq.out hp)
            have HS3 := hs
            have HM3 : Hid ((m : Int) = (us'.length : Int) + (os'.length : Int)) := Lib.hid (by have := hm.out; omega)
            clear hp
            go_wp2_with fail
            refine HP.out.mono ?_
            rintro e w3 ⟨rfl, hq3, hon⟩
            have HQ3 := Lib.hid hq3
            have HB3 := Lib.hid (hb.out.trans (hon.below hq1 hq2))
            clear hq3 hon HP hx0 hx1 hx2
            have hmn := many_int q b1 b2 64 (us') (os') w3 HQ3.out
            obtain ⟨a, ha⟩ : ∃ a, (us').length = a := ⟨_, rfl⟩
            obtain ⟨c', hc'⟩ : ∃ a, (os').length = a := ⟨_, rfl⟩
            rw [ha, hc'] at hmn
            have hsum : ((a : Int) + (c' : Int) != (m : Int)) = false := by rw [bne_eq_false_iff_eq, ← ha, ← hc']; have := HM3.out; omega
            have haa : a ≤ 64 := by rw [← ha]; exact HU3
            have hcc : c' ≤ 64 := by rw [← hc']; exact HO3
            have HMN := Lib.hid hmn
            have hzz : (m : Int) = 0 → s = 0 := fun h => by
              have h1 := HM3.out
              have e1 : (us') = [] := List.eq_nil_of_length_eq_zero (by omega)
              have e2 : (os') = [] := List.eq_nil_of_length_eq_zero (by omega)
              have h2 := HS3.out
              rw [e1, e2] at h2
              exact h2
            clear ha hc' hmn
            by_cases hz : (m : Int) = 0
            · have hz2 : (s != 0) = false := by rw [hzz hz]; rfl
              have hz1 : ((m : Int) == 0) = true := by rw [hz]; rfl
              clear hzz hz

              go_wp2_with fail
              refine HMN.out.mono ?_
              rintro e w5 ⟨rfl, d, rfl⟩
              go_wp2_with fail
              go_roundw
              case rel => exact ⟨i + 1, s, m, us', os', by omega, by go_num, rfl, rfl, by omega, by omega, by omega, HS3, Lib.hid (by have := HM3.out; omega), HU3, HO3, HW3, HX3, Lib.hid (HQ3.out.drewN d), Lib.hid (below_drewN HB3.out d)⟩
              case measure => simp [intOf]; omega
            · have hz1 : ((m : Int) == 0) = false := beq_eq_false_iff_ne.mpr hz
              clear hzz hz

              go_wp2_with fail
              refine HMN.out.mono ?_
              rintro e w5 ⟨rfl, d, rfl⟩
              go_wp2_with fail
              go_roundw
              case rel => exact ⟨i + 1, s, m, us', os', by omega, by go_num, rfl, rfl, by omega, by omega, by omega, HS3, Lib.hid (by have := HM3.out; omega), HU3, HO3, HW3, HX3, Lib.hid (HQ3.out.drewN d), Lib.hid (below_drewN HB3.out d)⟩
              case measure => simp [intOf]; omega
        · by_cases h5 : x0 = 5
          · subst h5
            have hdr := drain_int q b1 b2 64 us os wr hq.out (by omega)
            rw [← hm.out] at hdr
            have HP := Lib.hid hdr
            clear hdr
            go_wp2_with fail
            refine HP.out.mono ?_
            rintro e w3 ⟨rfl, hq3, hon⟩
            have HQ3 := Lib.hid hq3
            have HB3 := Lib.hid (hb.out.trans (hon.below hq1 hq2))
            clear hq3 hon HP hx0 hx1 hx2
            go_wp2_with fail
            refine (many_int q b1 b2 64 [] [] w3 HQ3.out).mono ?_
            rintro e w5 ⟨rfl, d, rfl⟩
            go_wp2_with fail
            go_roundw
            case rel => exact ⟨i + 1, 0, 0, [], [], by omega, by go_num, rfl, rfl, by omega, by omega, by omega, Lib.hid rfl, Lib.hid rfl, by simp, by simp, Lib.hid (fun x h => by cases h), Lib.hid (fun x h => by cases h), Lib.hid (HQ3.out.drewN d), Lib.hid (below_drewN HB3.out d)⟩
            case measure => simp [intOf]; omega
          · have h5b : (x0 == 5) = false := beq_eq_false_iff_ne.mpr h5
            clear h5
            by_cases hm00 : 0 < m
            · obtain ⟨z, us', os', htk, hs', hm', hz, HU3, HO3, hsu, hso⟩ := keeps_take us os hu ho su.out so.out (by have := hm.out; omega)
              have HW3 := Lib.hid hsu
              have HX3 := Lib.hid hso
              have HP := Lib.hid (take_to hq.out htk)
              have HS3 : Hid (s - z = lsum us' + lsum os') := Lib.hid (by have := hs.out; omega)
              have HM3 : Hid ((m : Int) - 1 = (us'.length : Int) + (os'.length : Int)) := Lib.hid (by have := hm.out; omega)
              have hbd1 := lsum_small us' HW3.out
              have hbd2 := lsum_small os' HX3.out
              have hb1' : -200000 ≤ s - z := by have := hs.out; omega
              have hb2' : s - z ≤ 200000 := by have := hs.out; omega
              have hz0 := hz.1
              have hz1 := hz.2
              have hmi : (0 : Int) < (m : Int) := by omega
              have hmd : decide ((0 : Int) < (m : Int)) = true := decide_eq_true hmi
              have hmd' : decide (0 < m) = true := decide_eq_true hm00
              clear htk hs' hm' hbd1 hbd2 hz hsu hso
              go_wp2_with fail
              refine HP.out.mono ?_
              rintro e w3 ⟨rfl, hq3, hon⟩
              have HQ3 := Lib.hid hq3
              have HB3 := Lib.hid (hb.out.trans (hon.below hq1 hq2))
              clear hq3 hon HP hx0 hx1 hx2
              have hmn := many_int q b1 b2 64 (us') (os') w3 HQ3.out
              obtain ⟨a, ha⟩ : ∃ a, (us').length = a := ⟨_, rfl⟩
              obtain ⟨c', hc'⟩ : ∃ a, (os').length = a := ⟨_, rfl⟩
              rw [ha, hc'] at hmn
              have hsum : ((a : Int) + (c' : Int) != ((m : Int) - 1)) = false := by rw [bne_eq_false_iff_eq, ← ha, ← hc']; have := HM3.out; omega
              have haa : a ≤ 64 := by rw [← ha]; exact HU3
              have hcc : c' ≤ 64 := by rw [← hc']; exact HO3
              have HMN := Lib.hid hmn
              have hzz : ((m : Int) - 1) = 0 → (s - z) = 0 := fun h => by
                have h1 := HM3.out
                have e1 : (us') = [] := List.eq_nil_of_length_eq_zero (by omega)
                have e2 : (os') = [] := List.eq_nil_of_length_eq_zero (by omega)
                have h2 := HS3.out
                rw [e1, e2] at h2
                exact h2
              clear ha hc' hmn
              by_cases hz : ((m : Int) - 1) = 0
              · have hz2 : ((s - z) != 0) = false := by rw [hzz hz]; rfl
                have hz1 : (((m : Int) - 1) == 0) = true := by rw [hz]; rfl
                clear hzz hz

                go_wp2_with fail
                refine HMN.out.mono ?_
                rintro e w5 ⟨rfl, d, rfl⟩
                go_wp2_with fail
                go_roundw
                case rel => exact ⟨i + 1, (s - z), m - 1, us', os', by omega, by go_num, rfl, by rw [show ((m : Int) - 1) = ((m - 1 : Nat) : Int) by omega], by omega, by omega, by omega, HS3, Lib.hid (by have := HM3.out; omega), HU3, HO3, HW3, HX3, Lib.hid (HQ3.out.drewN d), Lib.hid (below_drewN HB3.out d)⟩
                case measure => simp [intOf]; omega
              · have hz1 : (((m : Int) - 1) == 0) = false := beq_eq_false_iff_ne.mpr hz
                clear hzz hz

                go_wp2_with fail
                refine HMN.out.mono ?_
                rintro e w5 ⟨rfl, d, rfl⟩
                go_wp2_with fail
                go_roundw
                case rel => exact ⟨i + 1, (s - z), m - 1, us', os', by omega, by go_num, rfl, by rw [show ((m : Int) - 1) = ((m - 1 : Nat) : Int) by omega], by omega, by omega, by omega, HS3, Lib.hid (by have := HM3.out; omega), HU3, HO3, HW3, HX3, Lib.hid (HQ3.out.drewN d), Lib.hid (below_drewN HB3.out d)⟩
                case measure => simp [intOf]; omega
            · obtain rfl : m = 0 := by omega
              obtain rfl : us = [] := List.eq_nil_of_length_eq_zero (by have := hm.out; omega)
              obtain rfl : os = [] := List.eq_nil_of_length_eq_zero (by have := hm.out; simp at this; omega)
              obtain rfl : s = 0 := hs.out
              have HP := Lib.hid (take_to hq.out (us' := []) (os' := []) (r := false) (x := 0) rfl)
              clear hs hm hm00
              go_wp2_with fail
              refine HP.out.mono ?_
              rintro e w3 ⟨rfl, hq3, hon⟩
              have HQ3 := Lib.hid hq3
              have HB3 := Lib.hid (hb.out.trans (hon.below hq1 hq2))
              clear hq3 hon HP hx0 hx1 hx2
              go_wp2_with fail
              refine (many_int q b1 b2 64 [] [] w3 HQ3.out).mono ?_
              rintro e w5 ⟨rfl, d, rfl⟩
              go_wp2_with fail
              go_roundw
              case rel => exact ⟨i + 1, 0, 0, [], [], by omega, by go_num, rfl, rfl, by omega, by omega, by omega, Lib.hid rfl, Lib.hid rfl, by simp, by simp, Lib.hid (fun x h => by cases h), Lib.hid (fun x h => by cases h), Lib.hid (HQ3.out.drewN d), Lib.hid (below_drewN HB3.out d)⟩
              case measure => simp [intOf]; omega
      · obtain rfl : i = l.length := by omega
        go_wp2_with fail
        go_ret
        exact ⟨rfl, hb.out⟩
end Go.Proofs.Ytinipcfnmngccaa
