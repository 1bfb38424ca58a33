/- The law MbapTells, walked. -/
import Derived.Test.YtkmmkoiibcdmeaaRF1
import Derived.Test.YtkmmkoiibcdmeaaR1
namespace Go.Proofs.Ytkmmkoiibcdmeaa
open Go.RowKit Go.Proofs.YtkmmkoiibcdmeaaW.PrintWords Go.Proofs.YtkmmkoiibcdmeaaW.PrintLast Go.Proofs.YtkmmkoiibcdmeaaW.PrintMore
set_option linter.unusedVariables false
set_option linter.unusedSimpArgs false
theorem C_one {w : World} {g : Nat} {x : QD.S26} {cs : Array Value} (h : w.heap[g]? = some (.cells cs 26 (0, 0))) (hk : QD.k26.K w x cs.toList) : Kd.C QD.k26 w (some ⟨g, 0, none⟩) 1 [x] := by
  refine ⟨rfl, by decide, fun _ => ⟨_, rfl, fun j p hj => ?_⟩⟩
  obtain ⟨hj1, hj2⟩ := List.getElem?_eq_some_iff.1 hj
  obtain rfl : j = 0 := by simpa using hj1
  obtain rfl : x = p := by simpa using hj2
  refine ⟨cs.toList, QD.k26.K_len hk, hk, fun i u hu => ?_⟩
  have := cell_of_row w g i cs 26 (0, 0) h
  have e : (⟨g, 0, none⟩ : Addr).add (0 * QD.k26.sz + i) = ⟨g, i, none⟩ := by rw [Nat.zero_mul, Nat.zero_add]; unfold Addr.add; split <;> simp_all
  rw [e, this]; simpa using hu
def RowPost (w : World) (m : List Int) (e : Ending) (w' : World) : Prop := ∃ F f, e = .returned (.slice F m.length f) ∧ Kd.C (Kd.int .u8) w' F m.length m ∧ m.length ≤ f ∧ Below w.heap.size w w'
def BoolPost (w : World) (e : Ending) (w' : World) : Prop := e = .returned (.bool true) ∧ Below w.heap.size w w'
set_option maxRecDepth 100000 in
set_option maxHeartbeats 8000000 in
theorem tells_law (x : QD.S26) (A : Option Addr) (c : Nat) (B : Option Addr) (cb : Nat) (l : List Int) (w : World) (hx : Known x) (hr : Kd.C (Kd.int .u8) w A x.f2.length x.f2) (hc : x.f2.length ≤ c) (hl : Kd.C (Kd.int .u8) w B l.length l) (hcb : l.length ≤ cb) (hw : Bytes l) :
    Calls Try.prog 4 #[.agg #[.int .u16 x.f0, .int .u8 x.f1, .slice A x.f2.length c], .slice B l.length cb] w fun e w' => e = .returned (.bool true) ∧ Below w.heap.size w w' := by
  have HR := Lib.hid hr
  have HL := Lib.hid hl
  have HK := Lib.hid hx
  have HY := Lib.hid hw
  clear hr hl hx hw
  go_enter Try.func4, Try.ntmps4
  go_wp2_with fail
  have hbx := blk_new w (.cells #[.int .u16 x.f0, .int .u8 x.f1, .slice A x.f2.length c] 26)
  have hB0 := below_alloc (Below.refl w.heap.size w) (.cells #[.int .u16 x.f0, .int .u8 x.f1, .slice A x.f2.length c] 26)
  obtain ⟨wa, hwa⟩ : ∃ wa, w.alloc (.cells #[.int .u16 x.f0, .int .u8 x.f1, .slice A x.f2.length c] 26) = wa := ⟨_, rfl⟩
  obtain ⟨ga, hga⟩ : ∃ ga, w.heap.size = ga := ⟨_, rfl⟩
  rw [hwa] at hbx hB0 ⊢
  rw [hga] at hbx hB0 ⊢
  have HB0 := Lib.hid hB0
  have HSZ : Hid (ga ≤ wa.heap.size) := Lib.hid (by rw [← hga]; exact hB0.size)
  have HR := Lib.hid (Kd.C_below HR.out (by rw [hga]; exact hB0))
  have HL := Lib.hid (Kd.C_below HL.out (by rw [hga]; exact hB0))
  have HGA := Lib.hid (blk_lt hbx)
  have HX : Hid (∀ w', Below wa.heap.size wa w' → w'.cell? ⟨ga, 0, none⟩ = some (.int .u16 x.f0) ∧ w'.cell? ⟨ga, 1, none⟩ = some (.int .u8 x.f1) ∧ w'.cell? ⟨ga, 2, none⟩ = some (.slice A x.f2.length c)) :=
    Lib.hid (fun w' h => ⟨(h.cell (p := ⟨ga, 0, none⟩) HGA.out).trans (blk_cell hbx 0), (h.cell (p := ⟨ga, 1, none⟩) HGA.out).trans (blk_cell hbx 1), (h.cell (p := ⟨ga, 2, none⟩) HGA.out).trans (blk_cell hbx 2)⟩)
  clear hbx hB0 hwa
  refine (head_any _).mono ?_
  rintro e w1 ⟨rfl, hb⟩
  have HB1 := Lib.hid hb
  clear hb
  by_cases hn : 20000 < (l.length : Int)
  · go_wp2_with fail
    go_ret
    exact ⟨rfl, by rw [hga]; exact below_then HB0.out HSZ.out HB1.out⟩
  · have hn2 : (l.length : Int) ≤ 20000 := by omega
    have hnd : decide (20000 < (l.length : Int)) = false := decide_eq_false hn
    obtain ⟨hx0, hx1, hx2⟩ := HX.out w1 HB1.out
    clear hn
    go_wp2_with fail
    have hK := QD.k26_mk (w1.alloc (.cells #[.int .u16 x.f0, .int .u8 x.f1, .slice A x.f2.length c] 26)) x hc (Kd.C_alloc (Kd.C_below HR.out HB1.out) _)
    have hG := great_any _ 1 [x] _ (C_one (blk_new w1 (.cells #[.int .u16 x.f0, .int .u8 x.f1, .slice A x.f2.length c] 26)) hK) (Nat.le_refl _)
    refine hG.mono ?_
    rintro e w2 ⟨r, rfl, hgr, hb⟩
    have HB2 := Lib.hid (below_step (below_alloc HB1.out _) hb)
    clear hb hK hG hx0 hx1 hx2
    cases r with
    | true =>
      clear hgr
      go_wp2_with fail
      go_ret
      exact ⟨rfl, by rw [hga]; exact below_then HB0.out HSZ.out HB2.out⟩
    | false =>
      have hg0 := hgr rfl
      have HG : Hid (x.f2.length < 20000) := Lib.hid (by simp [sumTo] at hg0; omega)
      clear hgr hg0 HB1
      have hrl := Kd.C_below HL.out HB2.out
      obtain ⟨fo, hfo⟩ : ∃ fo, firstOf l = fo := ⟨_, rfl⟩
      obtain ⟨i0, u0, p0, n0, e0⟩ := fo
      have HFO := Lib.hid hfo
      have hf := QD.mbap_First.calls B cb l i0 u0 p0 n0 e0 w2 hrl hcb ((first_f HY.out (by omega)).trans (congrArg some hfo))
      have HF := Lib.hid hf
      clear hf hrl hfo
      go_wp2_with fail
      refine HF.out.mono ?_
      rintro e w3 ⟨v, rfl, ho, hb⟩
      have HB3 := Lib.hid (below_step HB2.out hb)
      obtain ⟨A3, d3, rfl⟩ := Kd.R_slice ho
      have HO3 := Lib.hid (Kd.R_reads' ho).2
      clear hb ho HF
      go_wp2_with fail
      have hbx := blk_new w3 (.cells #[.int .u16 i0, .int .u8 u0, .slice A3 p0.length d3] 26)
      have hB4 := below_alloc HB3.out (.cells #[.int .u16 i0, .int .u8 u0, .slice A3 p0.length d3] 26)
      have hO4 := Kd.C_alloc HO3.out.2 (.cells #[.int .u16 i0, .int .u8 u0, .slice A3 p0.length d3] 26)
      obtain ⟨w4, hw4⟩ : ∃ w4, w3.alloc (.cells #[.int .u16 i0, .int .u8 u0, .slice A3 p0.length d3] 26) = w4 := ⟨_, rfl⟩
      obtain ⟨gx, hgx⟩ : ∃ gx, w3.heap.size = gx := ⟨_, rfl⟩
      rw [hw4] at hbx hB4 hO4 ⊢
      rw [hgx] at hbx ⊢
      have HB4 := Lib.hid hB4
      have HO4 := Lib.hid (And.intro HO3.out.1 hO4)
      have HBX := Lib.hid hbx
      have HF := Lib.hid (QD.watchkeeperref03_First.calls 2 B cb l i0 u0 p0 n0 e0 w4 (Kd.C_below HL.out hB4) hcb ((rfirst_f 0 HY.out (by omega)).trans (congrArg some HFO.out)))
      clear hbx hB4 hO4 hw4 hgx HO3 HB3
      refine HF.out.mono ?_
      rintro e w5 ⟨v, rfl, ho, hb⟩
      have HB5 := Lib.hid (below_step HB4.out hb)
      obtain ⟨A5, d5, rfl⟩ := Kd.R_slice ho
      have HO5 := Lib.hid (Kd.R_reads' ho).2
      have HO4 := Lib.hid (And.intro HO4.out.1 (Kd.C_below HO4.out.2 hb))
      have HBX := Lib.hid (And.intro (blk_lt HBX.out) (blk_below HBX.out hb))
      clear hb ho HF HB4 HB2
      go_wp2_with fail
      have hby := blk_new w5 (.cells #[.int .u16 i0, .int .u8 u0, .slice A5 p0.length d5] 26)
      have hB6 := below_alloc HB5.out (.cells #[.int .u16 i0, .int .u8 u0, .slice A5 p0.length d5] 26)
      have hO6 := Kd.C_alloc HO5.out.2 (.cells #[.int .u16 i0, .int .u8 u0, .slice A5 p0.length d5] 26)
      have hO7 := Kd.C_alloc HO4.out.2 (.cells #[.int .u16 i0, .int .u8 u0, .slice A5 p0.length d5] 26)
      have hBa := below_alloc (Below.refl w5.heap.size w5) (.cells #[.int .u16 i0, .int .u8 u0, .slice A5 p0.length d5] 26)
      obtain ⟨w6, hw6⟩ : ∃ w6, w5.alloc (.cells #[.int .u16 i0, .int .u8 u0, .slice A5 p0.length d5] 26) = w6 := ⟨_, rfl⟩
      obtain ⟨gy, hgy⟩ : ∃ gy, w5.heap.size = gy := ⟨_, rfl⟩
      rw [hw6] at hby hB6 hO6 hO7 hBa ⊢
      have hbx := blk_below HBX.out.2 hBa
      rw [hgy] at hby ⊢
      have HB6 := Lib.hid hB6
      have HOX := Lib.hid (And.intro HO4.out.1 hO7)
      have HOY := Lib.hid (And.intro HO5.out.1 hO6)
      have HXL := Lib.hid (blk_lt hbx)
      have HYL := Lib.hid (blk_lt hby)
      have HXY : Hid (∀ w', Below w6.heap.size w6 w' → (w'.cell? ⟨gx, 0, none⟩ = some (.int .u16 i0) ∧ w'.cell? ⟨gx, 1, none⟩ = some (.int .u8 u0) ∧ w'.cell? ⟨gx, 2, none⟩ = some (.slice A3 p0.length d3)) ∧ (w'.cell? ⟨gy, 0, none⟩ = some (.int .u16 i0) ∧ w'.cell? ⟨gy, 1, none⟩ = some (.int .u8 u0) ∧ w'.cell? ⟨gy, 2, none⟩ = some (.slice A5 p0.length d5))) :=
        Lib.hid (fun w' h => ⟨⟨(h.cell (p := ⟨gx, 0, none⟩) HXL.out).trans (blk_cell hbx 0), (h.cell (p := ⟨gx, 1, none⟩) HXL.out).trans (blk_cell hbx 1), (h.cell (p := ⟨gx, 2, none⟩) HXL.out).trans (blk_cell hbx 2)⟩, (h.cell (p := ⟨gy, 0, none⟩) HYL.out).trans (blk_cell hby 0), (h.cell (p := ⟨gy, 1, none⟩) HYL.out).trans (blk_cell hby 1), (h.cell (p := ⟨gy, 2, none⟩) HYL.out).trans (blk_cell hby 2)⟩)
      obtain ⟨fo, hfo⟩ : ∃ fo, cutOf l = fo := ⟨_, rfl⟩
      obtain ⟨xs, n1, e1⟩ := fo
      obtain ⟨kr, hkr⟩ := rcut_f HY.out (l := l) (by omega)
      have hxs : xs.length ≤ 1000000 := by
        obtain ⟨xs', n', e', hq, hq2⟩ := cuts_of l
        have := hq.le.2
        rw [hq2] at hfo
        injection hfo with h1 _
        rw [← h1]; omega
      have HXS := Lib.hid hxs
      have HF := Lib.hid (QD.mbap_Cut.calls B cb l xs n1 e1 w6 (Kd.C_below HL.out hB6) hcb ((cut_f HY.out (by omega)).trans (congrArg some hfo)))
      have HKR := Lib.hid (hkr.trans (congrArg some hfo))
      clear hby hB6 hO6 hO7 hBa hw6 hgy hbx HB5 HO4 HO5 HBX hfo hkr hxs
      refine HF.out.mono ?_
      rintro e w7 ⟨v, rfl, ho, hb⟩
      have HB7 := Lib.hid hb
      obtain ⟨A7, d7, rfl⟩ := Kd.S_slice ho
      have HO7 := Lib.hid (Kd.S_reads' ho).2
      clear hb ho HF
      have HF := Lib.hid (QD.watchkeeperref03_Cut.calls kr B cb l xs n1 e1 w7 (Kd.C_below (Kd.C_below HL.out HB6.out) HB7.out) hcb HKR.out)
      go_wp2_with fail
      refine HF.out.mono ?_
      rintro e w8 ⟨v, rfl, ho, hb⟩
      have HB8 := Lib.hid (below_step HB7.out hb)
      obtain ⟨A8, d8, rfl⟩ := Kd.S_slice ho
      have HO8 := Lib.hid (Kd.S_reads' ho).2
      have HO7 := Lib.hid (And.intro HO7.out.1 (Kd.C_below HO7.out.2 hb))
      have HBZ := Lib.hid (below_then HB6.out HB6.out.size HB8.out)
      have HXZ : Hid (∀ w', Below w8.heap.size w8 w' → (w'.cell? ⟨ga, 0, none⟩ = some (.int .u16 x.f0) ∧ w'.cell? ⟨ga, 1, none⟩ = some (.int .u8 x.f1) ∧ w'.cell? ⟨ga, 2, none⟩ = some (.slice A x.f2.length c)) ∧ (w'.cell? ⟨gx, 0, none⟩ = some (.int .u16 i0) ∧ w'.cell? ⟨gx, 1, none⟩ = some (.int .u8 u0) ∧ w'.cell? ⟨gx, 2, none⟩ = some (.slice A3 p0.length d3)) ∧ (w'.cell? ⟨gy, 0, none⟩ = some (.int .u16 i0) ∧ w'.cell? ⟨gy, 1, none⟩ = some (.int .u8 u0) ∧ w'.cell? ⟨gy, 2, none⟩ = some (.slice A5 p0.length d5))) :=
        Lib.hid (fun w' h => ⟨HX.out w' (below_step HBZ.out h), HXY.out w' (below_step HB8.out h)⟩)
      obtain ⟨M, hM⟩ : ∃ M, (if fineB x = true then bytesOf x else []) = M := ⟨_, rfl⟩
      have HM := Lib.hid hM
      have HPUT : Hid (∀ w', Below w8.heap.size w8 w' → Calls Try.prog 15 #[.agg #[.int .u16 x.f0, .int .u8 x.f1, .slice A x.f2.length c]] w' (RowPost w' M)) := Lib.hid (fun w' h => by
        refine (put_all x HK.out A c w' (Kd.C_below HR.out (below_step HBZ.out h)) hc).mono ?_
        rintro e w9 ⟨v, rfl, ho, hb⟩
        rw [HM.out] at ho
        obtain ⟨A9, d9, rfl⟩ := Kd.R_slice ho
        exact ⟨A9, d9, rfl, (Kd.R_reads' ho).2.2, (Kd.R_reads' ho).2.1, hb⟩)
      have HRPUT : Hid (∀ w', Below w8.heap.size w8 w' → Calls Try.prog 16 #[.agg #[.int .u16 x.f0, .int .u8 x.f1, .slice A x.f2.length c]] w' (RowPost w' M)) := Lib.hid (fun w' h => by
        refine (QD.watchkeeperref03_Put.calls x.f0 x.f1 A c x.f2 M w' (Kd.C_below HR.out (below_step HBZ.out h)) hc ((rput_f x HK.out).trans (congrArg some HM.out))).mono ?_
        rintro e w9 ⟨v, rfl, ho, hb⟩
        obtain ⟨A9, d9, rfl⟩ := Kd.R_slice ho
        exact ⟨A9, d9, rfl, (Kd.R_reads' ho).2.2, (Kd.R_reads' ho).2.1, hb⟩)
      have HSAME : Hid (∀ w', Below w8.heap.size w8 w' → Calls Try.prog 17 #[.agg #[.int .u16 i0, .int .u8 u0, .slice A3 p0.length d3], .agg #[.int .u16 i0, .int .u8 u0, .slice A5 p0.length d5]] w' (BoolPost w')) := Lib.hid (fun w' h => 
        same_eq i0 u0 A3 d3 A5 d5 p0 w' (Kd.C_below HOX.out.2 (below_step HB8.out h)) HOX.out.1 (Kd.C_below HOY.out.2 (below_step HB8.out h)) HOY.out.1)
      have HALL : Hid (∀ w', Below w8.heap.size w8 w' → Calls Try.prog 18 #[.slice A7 xs.length d7, .slice A8 xs.length d8] w' (BoolPost w')) := Lib.hid (fun w' h =>
        sameAll_any xs HXS.out A7 d7 A8 d8 w' (Kd.C_below HO7.out.2 h) HO7.out.1 (Kd.C_below HO8.out.2 h) HO8.out.1)
      clear hb ho HF hM HX HXY HR HL HK HY HGA HG HFO HOX HOY HXL HYL HO7 HO8 HKR HXS HM HB6 HB7 HB8 hn2
      have hq0 : ((strOfNums M).toList == (strOfNums M).toList) = true := by simp
      have hq1 : (n0 == n0) = true := by simp
      have hq2 : (e0 == e0) = true := by simp
      have hq3 : (n1 == n1) = true := by simp
      have hq4 : (e1 == e1) = true := by simp
      go_wp2_with fail
      refine start_ (n := 41) (S := fun w' => w'.cell? ⟨ga, 0, none⟩ = some (.int .u16 x.f0) ∧ w'.cell? ⟨ga, 1, none⟩ = some (.int .u8 x.f1) ∧ w'.cell? ⟨ga, 2, none⟩ = some (.slice A x.f2.length c) ∧ w'.cell? ⟨gx, 0, none⟩ = some (.int .u16 i0) ∧ w'.cell? ⟨gx, 1, none⟩ = some (.int .u8 u0) ∧ w'.cell? ⟨gx, 2, none⟩ = some (.slice A3 p0.length d3) ∧ w'.cell? ⟨gy, 0, none⟩ = some (.int .u16 i0) ∧ w'.cell? ⟨gy, 1, none⟩ = some (.int .u8 u0) ∧ w'.cell? ⟨gy, 2, none⟩ = some (.slice A5 p0.length d5)) (ds := []) #[false, false, false, false, false, false, false, false, false, false, false, false, false, false, false, false, false, false, false, false, false, false, false, false, false, false, false, false, false, false, false, false, false, false, false, false, false, false, false, false, false] (by kernel_rfl) rfl rfl ⟨(HXZ.out _ (below_drew1 (Below.refl _ _))).1.1, (HXZ.out _ (below_drew1 (Below.refl _ _))).1.2.1, (HXZ.out _ (below_drew1 (Below.refl _ _))).1.2.2, (HXZ.out _ (below_drew1 (Below.refl _ _))).2.1.1, (HXZ.out _ (below_drew1 (Below.refl _ _))).2.1.2.1, (HXZ.out _ (below_drew1 (Below.refl _ _))).2.1.2.2, (HXZ.out _ (below_drew1 (Below.refl _ _))).2.2.1, (HXZ.out _ (below_drew1 (Below.refl _ _))).2.2.2.1, (HXZ.out _ (below_drew1 (Below.refl _ _))).2.2.2.2⟩ (fun hHeld => ?_)
      refine pure_ (i := 0) (N := some 52) (v := ?_) (a' := ?_) #[true, false, false, false, false, false, false, false, false, false, false, false, false, false, false, false, false, false, false, false, false, false, false, false, false, false, false, false, false, false, false, false, false, false, false, false, false, false, false, false, false] rfl rfl (by kernel_rfl) (fun _ _ _ h => h) (Or.inl ⟨by rfl, ?_⟩) ?_ ?_
      rotate_left
      · intro w'
        go_simp
        with_reducible rfl
      rotate_left
      · simp only [Act.put, List.setIfInBounds_toArray, List.set_cons_zero, List.set_cons_succ, i64_w, i32_w]
        rfl
      refine pure_ (i := 1) (N := some 53) (v := ?_) (a' := ?_) #[true, true, false, false, false, false, false, false, false, false, false, false, false, false, false, false, false, false, false, false, false, false, false, false, false, false, false, false, false, false, false, false, false, false, false, false, false, false, false, false, false] rfl rfl (by kernel_rfl) (fun _ _ _ h => h) (Or.inl ⟨by rfl, ?_⟩) ?_ ?_
      rotate_left
      · intro w'
        go_simp
        with_reducible rfl
      rotate_left
      · simp only [Act.put, List.setIfInBounds_toArray, List.set_cons_zero, List.set_cons_succ, i64_w, i32_w]
        rfl
      refine take_ (i := 2) (N := some 54) (v := ?_) (a' := ?_) #[true, true, true, false, false, false, false, false, false, false, false, false, false, false, false, false, false, false, false, false, false, false, false, false, false, false, false, false, false, false, false, false, false, false, false, false, false, false, false, false, false] rfl rfl (by kernel_rfl) (fun _ _ _ h => h) (Or.inl ⟨by rfl, ?_⟩) hHeld ?_ ?_
      rotate_left
      · rintro w' ⟨s0, s1, s2, s3, s4, s5, s6, s7, s8⟩
        go_simp
        with_reducible rfl
      rotate_left
      · simp only [Act.put, List.setIfInBounds_toArray, List.set_cons_zero, List.set_cons_succ, i64_w, i32_w]
        rfl
      refine take_ (i := 5) (N := some 57) (v := ?_) (a' := ?_) #[true, true, true, false, false, true, false, false, false, false, false, false, false, false, false, false, false, false, false, false, false, false, false, false, false, false, false, false, false, false, false, false, false, false, false, false, false, false, false, false, false] rfl rfl (by kernel_rfl) (fun _ _ _ h => h) (Or.inl ⟨by rfl, ?_⟩) hHeld ?_ ?_
      rotate_left
      · rintro w' ⟨s0, s1, s2, s3, s4, s5, s6, s7, s8⟩
        go_simp
        with_reducible rfl
      rotate_left
      · simp only [Act.put, List.setIfInBounds_toArray, List.set_cons_zero, List.set_cons_succ, i64_w, i32_w]
        rfl
      refine one_ (i := 3) (N := some 55) #[true, true, true, true, false, true, false, false, false, false, false, false, false, false, false, false, false, false, false, false, false, false, false, false, false, false, false, false, false, false, false, false, false, false, false, false, false, false, false, false, false] rfl rfl (by kernel_rfl) (by decide) (fun K hK => ?_)
      refine goes_ Try.func15 (by kernel_rfl) rfl #[.agg #[.int .u16 x.f0, .int .u8 x.f1, .slice A x.f2.length c]] (by rfl) rfl rfl (by simp only [List.map_toArray, List.map_cons, List.map_nil]; rfl) ?_
      with_reducible refine (HPUT.out _ (below_drew1 (Below.refl _ _))).mono ?_
      rintro e w9 ⟨F, f, rfl, hf, hfc, hb9⟩
      refine ⟨_, rfl, ?_⟩
      have hB9 : Below w8.heap.size w8 w9 := below_step (below_drew1 (Below.refl _ _)) hb9
      refine hK.out _ _ ⟨(HXZ.out _ hB9).1.1, (HXZ.out _ hB9).1.2.1, (HXZ.out _ hB9).1.2.2, (HXZ.out _ hB9).2.1.1, (HXZ.out _ hB9).2.1.2.1, (HXZ.out _ hB9).2.1.2.2, (HXZ.out _ hB9).2.2.1, (HXZ.out _ hB9).2.2.2.1, (HXZ.out _ hB9).2.2.2.2⟩ (fun hHeld => ?_)
      clear hK K
      refine more_ (S' := fun w' => w'.cell? ⟨ga, 0, none⟩ = some (.int .u16 x.f0) ∧ w'.cell? ⟨ga, 1, none⟩ = some (.int .u8 x.f1) ∧ w'.cell? ⟨ga, 2, none⟩ = some (.slice A x.f2.length c) ∧ w'.cell? ⟨gx, 0, none⟩ = some (.int .u16 i0) ∧ w'.cell? ⟨gx, 1, none⟩ = some (.int .u8 u0) ∧ w'.cell? ⟨gx, 2, none⟩ = some (.slice A3 p0.length d3) ∧ w'.cell? ⟨gy, 0, none⟩ = some (.int .u16 i0) ∧ w'.cell? ⟨gy, 1, none⟩ = some (.int .u8 u0) ∧ w'.cell? ⟨gy, 2, none⟩ = some (.slice A5 p0.length d5) ∧ (convert 22 9 (.slice F M.length f)).run Try.prog w' = .ok (.string (strOfNums M)) w') (fun w' h => ⟨h.1, h.2.1, h.2.2.1, h.2.2.2.1, h.2.2.2.2.1, h.2.2.2.2.2.1, h.2.2.2.2.2.2.1, h.2.2.2.2.2.2.2.1, h.2.2.2.2.2.2.2.2.1⟩) ⟨(HXZ.out _ hB9).1.1, (HXZ.out _ hB9).1.2.1, (HXZ.out _ hB9).1.2.2, (HXZ.out _ hB9).2.1.1, (HXZ.out _ hB9).2.1.2.1, (HXZ.out _ hB9).2.1.2.2, (HXZ.out _ hB9).2.2.1, (HXZ.out _ hB9).2.2.2.1, (HXZ.out _ hB9).2.2.2.2, str_of hf (Below.refl _ _)⟩ (fun hHeld => ?_)
      refine norm_ (a' := ?_) ?_ ?_
      rotate_left
      · show Act.put _ (some 55) _ = _
        simp only [Act.put, List.setIfInBounds_toArray, List.set_cons_zero, List.set_cons_succ, i64_w, i32_w]
        rfl
      refine take_ (i := 4) (N := some 56) (v := ?_) (a' := ?_) #[true, true, true, true, true, true, false, false, false, false, false, false, false, false, false, false, false, false, false, false, false, false, false, false, false, false, false, false, false, false, false, false, false, false, false, false, false, false, false, false, false] rfl rfl (by kernel_rfl) (fun _ _ _ h => h) (Or.inl ⟨by rfl, ?_⟩) hHeld ?_ ?_
      rotate_left
      · rintro w' ⟨s0, s1, s2, s3, s4, s5, s6, s7, s8, s9⟩
        go_simp
        with_reducible rfl
      rotate_left
      · simp only [Act.put, List.setIfInBounds_toArray, List.set_cons_zero, List.set_cons_succ, i64_w, i32_w]
        rfl
      refine one_ (i := 6) (N := some 58) #[true, true, true, true, true, true, true, false, false, false, false, false, false, false, false, false, false, false, false, false, false, false, false, false, false, false, false, false, false, false, false, false, false, false, false, false, false, false, false, false, false] rfl rfl (by kernel_rfl) (by decide) (fun K hK => ?_)
      refine goes_ Try.func16 (by kernel_rfl) rfl #[.agg #[.int .u16 x.f0, .int .u8 x.f1, .slice A x.f2.length c]] (by rfl) rfl rfl (by simp only [List.map_toArray, List.map_cons, List.map_nil]; rfl) ?_
      with_reducible refine (HRPUT.out _ hB9).mono ?_
      rintro e w10 ⟨G, g, rfl, hg, hgc, hb10⟩
      refine ⟨_, rfl, ?_⟩
      have hB10 : Below w8.heap.size w8 w10 := below_step hB9 hb10
      refine hK.out _ _ ⟨(HXZ.out _ hB10).1.1, (HXZ.out _ hB10).1.2.1, (HXZ.out _ hB10).1.2.2, (HXZ.out _ hB10).2.1.1, (HXZ.out _ hB10).2.1.2.1, (HXZ.out _ hB10).2.1.2.2, (HXZ.out _ hB10).2.2.1, (HXZ.out _ hB10).2.2.2.1, (HXZ.out _ hB10).2.2.2.2, str_of hf hb10⟩ (fun hHeld => ?_)
      clear hK K
      refine more_ (S' := fun w' => w'.cell? ⟨ga, 0, none⟩ = some (.int .u16 x.f0) ∧ w'.cell? ⟨ga, 1, none⟩ = some (.int .u8 x.f1) ∧ w'.cell? ⟨ga, 2, none⟩ = some (.slice A x.f2.length c) ∧ w'.cell? ⟨gx, 0, none⟩ = some (.int .u16 i0) ∧ w'.cell? ⟨gx, 1, none⟩ = some (.int .u8 u0) ∧ w'.cell? ⟨gx, 2, none⟩ = some (.slice A3 p0.length d3) ∧ w'.cell? ⟨gy, 0, none⟩ = some (.int .u16 i0) ∧ w'.cell? ⟨gy, 1, none⟩ = some (.int .u8 u0) ∧ w'.cell? ⟨gy, 2, none⟩ = some (.slice A5 p0.length d5) ∧ (convert 22 9 (.slice F M.length f)).run Try.prog w' = .ok (.string (strOfNums M)) w' ∧ (convert 22 9 (.slice G M.length g)).run Try.prog w' = .ok (.string (strOfNums M)) w') (fun w' h => ⟨h.1, h.2.1, h.2.2.1, h.2.2.2.1, h.2.2.2.2.1, h.2.2.2.2.2.1, h.2.2.2.2.2.2.1, h.2.2.2.2.2.2.2.1, h.2.2.2.2.2.2.2.2.1, h.2.2.2.2.2.2.2.2.2.1⟩) ⟨(HXZ.out _ hB10).1.1, (HXZ.out _ hB10).1.2.1, (HXZ.out _ hB10).1.2.2, (HXZ.out _ hB10).2.1.1, (HXZ.out _ hB10).2.1.2.1, (HXZ.out _ hB10).2.1.2.2, (HXZ.out _ hB10).2.2.1, (HXZ.out _ hB10).2.2.2.1, (HXZ.out _ hB10).2.2.2.2, str_of hf hb10, str_of hg (Below.refl _ _)⟩ (fun hHeld => ?_)
      refine norm_ (a' := ?_) ?_ ?_
      rotate_left
      · show Act.put _ (some 58) _ = _
        simp only [Act.put, List.setIfInBounds_toArray, List.set_cons_zero, List.set_cons_succ, i64_w, i32_w]
        rfl
      refine take_ (i := 7) (N := some 59) (v := ?_) (a' := ?_) #[true, true, true, true, true, true, true, true, false, false, false, false, false, false, false, false, false, false, false, false, false, false, false, false, false, false, false, false, false, false, false, false, false, false, false, false, false, false, false, false, false] rfl rfl (by kernel_rfl) (fun _ _ _ h => h) (Or.inl ⟨by rfl, ?_⟩) hHeld ?_ ?_
      rotate_left
      · rintro w' ⟨s0, s1, s2, s3, s4, s5, s6, s7, s8, s9, s10⟩
        go_simp
        with_reducible rfl
      rotate_left
      · simp only [Act.put, List.setIfInBounds_toArray, List.set_cons_zero, List.set_cons_succ, i64_w, i32_w]
        rfl
      refine pure_ (i := 8) (N := some 60) (v := ?_) (a' := ?_) #[true, true, true, true, true, true, true, true, true, false, false, false, false, false, false, false, false, false, false, false, false, false, false, false, false, false, false, false, false, false, false, false, false, false, false, false, false, false, false, false, false] rfl rfl (by kernel_rfl) (fun _ _ _ h => h) (Or.inl ⟨by rfl, ?_⟩) ?_ ?_
      rotate_left
      · intro w'
        go_simp
        with_reducible rfl
      rotate_left
      · simp only [Act.put, List.setIfInBounds_toArray, List.set_cons_zero, List.set_cons_succ, i64_w, i32_w]
        rfl
      refine pure_ (i := 9) (N := some 61) (v := ?_) (a' := ?_) #[true, true, true, true, true, true, true, true, true, true, false, false, false, false, false, false, false, false, false, false, false, false, false, false, false, false, false, false, false, false, false, false, false, false, false, false, false, false, false, false, false] rfl rfl (by kernel_rfl) (fun _ _ _ h => h) (Or.inl ⟨by rfl, ?_⟩) ?_ ?_
      rotate_left
      · intro w'
        go_simp
        with_reducible rfl
      rotate_left
      · simp only [Act.put, List.setIfInBounds_toArray, List.set_cons_zero, List.set_cons_succ, i64_w, i32_w]
        rfl
      refine pure_ (i := 10) (N := some 62) (v := ?_) (a' := ?_) #[true, true, true, true, true, true, true, true, true, true, true, false, false, false, false, false, false, false, false, false, false, false, false, false, false, false, false, false, false, false, false, false, false, false, false, false, false, false, false, false, false] rfl rfl (by kernel_rfl) (fun _ _ _ h => h) (Or.inl ⟨by rfl, ?_⟩) ?_ ?_
      rotate_left
      · intro w'
        go_simp
        with_reducible rfl
      rotate_left
      · simp only [Act.put, List.setIfInBounds_toArray, List.set_cons_zero, List.set_cons_succ, i64_w, i32_w]
        rfl
      refine take_ (i := 11) (N := some 63) (v := ?_) (a' := ?_) #[true, true, true, true, true, true, true, true, true, true, true, true, false, false, false, false, false, false, false, false, false, false, false, false, false, false, false, false, false, false, false, false, false, false, false, false, false, false, false, false, false] rfl rfl (by kernel_rfl) (fun _ _ _ h => h) (Or.inl ⟨by rfl, ?_⟩) hHeld ?_ ?_
      rotate_left
      · rintro w' ⟨s0, s1, s2, s3, s4, s5, s6, s7, s8, s9, s10⟩
        go_simp
        with_reducible rfl
      rotate_left
      · simp only [Act.put, List.setIfInBounds_toArray, List.set_cons_zero, List.set_cons_succ, i64_w, i32_w]
        rfl
      refine take_ (i := 12) (N := some 64) (v := ?_) (a' := ?_) #[true, true, true, true, true, true, true, true, true, true, true, true, true, false, false, false, false, false, false, false, false, false, false, false, false, false, false, false, false, false, false, false, false, false, false, false, false, false, false, false, false] rfl rfl (by kernel_rfl) (fun _ _ _ h => h) (Or.inl ⟨by rfl, ?_⟩) hHeld ?_ ?_
      rotate_left
      · rintro w' ⟨s0, s1, s2, s3, s4, s5, s6, s7, s8, s9, s10⟩
        go_simp
        with_reducible rfl
      rotate_left
      · simp only [Act.put, List.setIfInBounds_toArray, List.set_cons_zero, List.set_cons_succ, i64_w, i32_w]
        rfl
      refine one_ (i := 13) (N := some 65) #[true, true, true, true, true, true, true, true, true, true, true, true, true, true, false, false, false, false, false, false, false, false, false, false, false, false, false, false, false, false, false, false, false, false, false, false, false, false, false, false, false] rfl rfl (by kernel_rfl) (by decide) (fun K hK => ?_)
      refine goes_ Try.func17 (by kernel_rfl) rfl #[.agg #[.int .u16 i0, .int .u8 u0, .slice A3 p0.length d3], .agg #[.int .u16 i0, .int .u8 u0, .slice A5 p0.length d5]] (by rfl) rfl rfl (by simp only [List.map_toArray, List.map_cons, List.map_nil]; rfl) ?_
      with_reducible refine (HSAME.out _ hB10).mono ?_
      rintro e w11 ⟨rfl, hb11⟩
      refine ⟨_, rfl, ?_⟩
      have hB11 : Below w8.heap.size w8 w11 := below_step hB10 hb11
      have hb911 := below_then hb10 hb10.size hb11
      refine hK.out _ _ ⟨(HXZ.out _ hB11).1.1, (HXZ.out _ hB11).1.2.1, (HXZ.out _ hB11).1.2.2, (HXZ.out _ hB11).2.1.1, (HXZ.out _ hB11).2.1.2.1, (HXZ.out _ hB11).2.1.2.2, (HXZ.out _ hB11).2.2.1, (HXZ.out _ hB11).2.2.2.1, (HXZ.out _ hB11).2.2.2.2, str_of hf hb911, str_of hg hb11⟩ (fun hHeld => ?_)
      clear hK K
      refine norm_ (a' := ?_) ?_ ?_
      rotate_left
      · show Act.put _ (some 65) _ = _
        simp only [Act.put, List.setIfInBounds_toArray, List.set_cons_zero, List.set_cons_succ, i64_w, i32_w]
        rfl
      refine pure_ (i := 14) (N := some 66) (v := ?_) (a' := ?_) #[true, true, true, true, true, true, true, true, true, true, true, true, true, true, true, false, false, false, false, false, false, false, false, false, false, false, false, false, false, false, false, false, false, false, false, false, false, false, false, false, false] rfl rfl (by kernel_rfl) (fun _ _ _ h => h) (Or.inl ⟨by rfl, ?_⟩) ?_ ?_
      rotate_left
      · intro w'
        go_simp
        with_reducible rfl
      rotate_left
      · simp only [Act.put, List.setIfInBounds_toArray, List.set_cons_zero, List.set_cons_succ, i64_w, i32_w]
        rfl
      refine pure_ (i := 15) (N := some 67) (v := ?_) (a' := ?_) #[true, true, true, true, true, true, true, true, true, true, true, true, true, true, true, true, false, false, false, false, false, false, false, false, false, false, false, false, false, false, false, false, false, false, false, false, false, false, false, false, false] rfl rfl (by kernel_rfl) (fun _ _ _ h => h) (Or.inl ⟨by rfl, ?_⟩) ?_ ?_
      rotate_left
      · intro w'
        go_simp
        with_reducible rfl
      rotate_left
      · simp only [Act.put, List.setIfInBounds_toArray, List.set_cons_zero, List.set_cons_succ, i64_w, i32_w]
        rfl
      refine pure_ (i := 16) (N := some 68) (v := ?_) (a' := ?_) #[true, true, true, true, true, true, true, true, true, true, true, true, true, true, true, true, true, false, false, false, false, false, false, false, false, false, false, false, false, false, false, false, false, false, false, false, false, false, false, false, false] rfl rfl (by kernel_rfl) (fun _ _ _ h => h) (Or.inl ⟨by rfl, ?_⟩) ?_ ?_
      rotate_left
      · intro w'
        go_simp
        with_reducible rfl
      rotate_left
      · simp only [Act.put, List.setIfInBounds_toArray, List.set_cons_zero, List.set_cons_succ, i64_w, i32_w]
        rfl
      refine pure_ (i := 17) (N := some 69) (v := ?_) (a' := ?_) #[true, true, true, true, true, true, true, true, true, true, true, true, true, true, true, true, true, true, false, false, false, false, false, false, false, false, false, false, false, false, false, false, false, false, false, false, false, false, false, false, false] rfl rfl (by kernel_rfl) (fun _ _ _ h => h) (Or.inl ⟨by rfl, ?_⟩) ?_ ?_
      rotate_left
      · intro w'
        go_simp
        with_reducible rfl
      rotate_left
      · simp only [Act.put, List.setIfInBounds_toArray, List.set_cons_zero, List.set_cons_succ, i64_w, i32_w]
        rfl
      refine pure_ (i := 18) (N := some 70) (v := ?_) (a' := ?_) #[true, true, true, true, true, true, true, true, true, true, true, true, true, true, true, true, true, true, true, false, false, false, false, false, false, false, false, false, false, false, false, false, false, false, false, false, false, false, false, false, false] rfl rfl (by kernel_rfl) (fun _ _ _ h => h) (Or.inl ⟨by rfl, ?_⟩) ?_ ?_
      rotate_left
      · intro w'
        go_simp
        with_reducible rfl
      rotate_left
      · simp only [Act.put, List.setIfInBounds_toArray, List.set_cons_zero, List.set_cons_succ, i64_w, i32_w]
        rfl
      refine pure_ (i := 19) (N := some 71) (v := ?_) (a' := ?_) #[true, true, true, true, true, true, true, true, true, true, true, true, true, true, true, true, true, true, true, true, false, false, false, false, false, false, false, false, false, false, false, false, false, false, false, false, false, false, false, false, false] rfl rfl (by kernel_rfl) (fun _ _ _ h => h) (Or.inl ⟨by rfl, ?_⟩) ?_ ?_
      rotate_left
      · intro w'
        go_simp
        with_reducible rfl
      rotate_left
      · simp only [Act.put, List.setIfInBounds_toArray, List.set_cons_zero, List.set_cons_succ, i64_w, i32_w]
        rfl
      refine pure_ (i := 20) (N := some 72) (v := ?_) (a' := ?_) #[true, true, true, true, true, true, true, true, true, true, true, true, true, true, true, true, true, true, true, true, true, false, false, false, false, false, false, false, false, false, false, false, false, false, false, false, false, false, false, false, false] rfl rfl (by kernel_rfl) (fun _ _ _ h => h) (Or.inl ⟨by rfl, ?_⟩) ?_ ?_
      rotate_left
      · intro w'
        go_simp
        with_reducible rfl
      rotate_left
      · simp only [Act.put, List.setIfInBounds_toArray, List.set_cons_zero, List.set_cons_succ, i64_w, i32_w]
        rfl
      refine pure_ (i := 21) (N := some 73) (v := ?_) (a' := ?_) #[true, true, true, true, true, true, true, true, true, true, true, true, true, true, true, true, true, true, true, true, true, true, false, false, false, false, false, false, false, false, false, false, false, false, false, false, false, false, false, false, false] rfl rfl (by kernel_rfl) (fun _ _ _ h => h) (Or.inl ⟨by rfl, ?_⟩) ?_ ?_
      rotate_left
      · intro w'
        go_simp
        with_reducible rfl
      rotate_left
      · simp only [Act.put, List.setIfInBounds_toArray, List.set_cons_zero, List.set_cons_succ, i64_w, i32_w]
        rfl
      refine pure_ (i := 22) (N := some 74) (v := ?_) (a' := ?_) #[true, true, true, true, true, true, true, true, true, true, true, true, true, true, true, true, true, true, true, true, true, true, true, false, false, false, false, false, false, false, false, false, false, false, false, false, false, false, false, false, false] rfl rfl (by kernel_rfl) (fun _ _ _ h => h) (Or.inl ⟨by rfl, ?_⟩) ?_ ?_
      rotate_left
      · intro w'
        go_simp
        with_reducible rfl
      rotate_left
      · simp only [Act.put, List.setIfInBounds_toArray, List.set_cons_zero, List.set_cons_succ, i64_w, i32_w]
        rfl
      refine pure_ (i := 23) (N := some 75) (v := ?_) (a' := ?_) #[true, true, true, true, true, true, true, true, true, true, true, true, true, true, true, true, true, true, true, true, true, true, true, true, false, false, false, false, false, false, false, false, false, false, false, false, false, false, false, false, false] rfl rfl (by kernel_rfl) (fun _ _ _ h => h) (Or.inl ⟨by rfl, ?_⟩) ?_ ?_
      rotate_left
      · intro w'
        go_simp
        with_reducible rfl
      rotate_left
      · simp only [Act.put, List.setIfInBounds_toArray, List.set_cons_zero, List.set_cons_succ, i64_w, i32_w]
        rfl
      refine pure_ (i := 24) (N := some 76) (v := ?_) (a' := ?_) #[true, true, true, true, true, true, true, true, true, true, true, true, true, true, true, true, true, true, true, true, true, true, true, true, true, false, false, false, false, false, false, false, false, false, false, false, false, false, false, false, false] rfl rfl (by kernel_rfl) (fun _ _ _ h => h) (Or.inl ⟨by rfl, ?_⟩) ?_ ?_
      rotate_left
      · intro w'
        go_simp
        with_reducible rfl
      rotate_left
      · simp only [Act.put, List.setIfInBounds_toArray, List.set_cons_zero, List.set_cons_succ, i64_w, i32_w]
        rfl
      refine pure_ (i := 25) (N := some 77) (v := ?_) (a' := ?_) #[true, true, true, true, true, true, true, true, true, true, true, true, true, true, true, true, true, true, true, true, true, true, true, true, true, true, false, false, false, false, false, false, false, false, false, false, false, false, false, false, false] rfl rfl (by kernel_rfl) (fun _ _ _ h => h) (Or.inl ⟨by rfl, ?_⟩) ?_ ?_
      rotate_left
      · intro w'
        go_simp
        with_reducible rfl
      rotate_left
      · simp only [Act.put, List.setIfInBounds_toArray, List.set_cons_zero, List.set_cons_succ, i64_w, i32_w]
        rfl
      refine pure_ (i := 26) (N := some 78) (v := ?_) (a' := ?_) #[true, true, true, true, true, true, true, true, true, true, true, true, true, true, true, true, true, true, true, true, true, true, true, true, true, true, true, false, false, false, false, false, false, false, false, false, false, false, false, false, false] rfl rfl (by kernel_rfl) (fun _ _ _ h => h) (Or.inl ⟨by rfl, ?_⟩) ?_ ?_
      rotate_left
      · intro w'
        go_simp
        with_reducible rfl
      rotate_left
      · simp only [Act.put, List.setIfInBounds_toArray, List.set_cons_zero, List.set_cons_succ, i64_w, i32_w]
        rfl
      refine pure_ (i := 27) (N := some 79) (v := ?_) (a' := ?_) #[true, true, true, true, true, true, true, true, true, true, true, true, true, true, true, true, true, true, true, true, true, true, true, true, true, true, true, true, false, false, false, false, false, false, false, false, false, false, false, false, false] rfl rfl (by kernel_rfl) (fun _ _ _ h => h) (Or.inl ⟨by rfl, ?_⟩) ?_ ?_
      rotate_left
      · intro w'
        go_simp
        with_reducible rfl
      rotate_left
      · simp only [Act.put, List.setIfInBounds_toArray, List.set_cons_zero, List.set_cons_succ, i64_w, i32_w]
        rfl
      refine one_ (i := 28) (N := some 80) #[true, true, true, true, true, true, true, true, true, true, true, true, true, true, true, true, true, true, true, true, true, true, true, true, true, true, true, true, true, false, false, false, false, false, false, false, false, false, false, false, false] rfl rfl (by kernel_rfl) (by decide) (fun K hK => ?_)
      refine goes_ Try.func18 (by kernel_rfl) rfl #[.slice A7 xs.length d7, .slice A8 xs.length d8] (by rfl) rfl rfl (by simp only [List.map_toArray, List.map_cons, List.map_nil]; rfl) ?_
      with_reducible refine (HALL.out _ hB11).mono ?_
      rintro e w12 ⟨rfl, hb12⟩
      refine ⟨_, rfl, ?_⟩
      have hB12 : Below w8.heap.size w8 w12 := below_step hB11 hb12
      refine hK.out _ _ ⟨(HXZ.out _ hB12).1.1, (HXZ.out _ hB12).1.2.1, (HXZ.out _ hB12).1.2.2, (HXZ.out _ hB12).2.1.1, (HXZ.out _ hB12).2.1.2.1, (HXZ.out _ hB12).2.1.2.2, (HXZ.out _ hB12).2.2.1, (HXZ.out _ hB12).2.2.2.1, (HXZ.out _ hB12).2.2.2.2, str_of hf (below_then hb911 hb911.size hb12), str_of hg (below_then hb11 hb11.size hb12)⟩ (fun hHeld => ?_)
      clear hK K
      refine norm_ (a' := ?_) ?_ ?_
      rotate_left
      · show Act.put _ (some 80) _ = _
        simp only [Act.put, List.setIfInBounds_toArray, List.set_cons_zero, List.set_cons_succ, i64_w, i32_w]
        rfl
      refine pure_ (i := 29) (N := some 81) (v := ?_) (a' := ?_) #[true, true, true, true, true, true, true, true, true, true, true, true, true, true, true, true, true, true, true, true, true, true, true, true, true, true, true, true, true, true, false, false, false, false, false, false, false, false, false, false, false] rfl rfl (by kernel_rfl) (fun _ _ _ h => h) (Or.inl ⟨by rfl, ?_⟩) ?_ ?_
      rotate_left
      · intro w'
        go_simp
        with_reducible rfl
      rotate_left
      · simp only [Act.put, List.setIfInBounds_toArray, List.set_cons_zero, List.set_cons_succ, i64_w, i32_w]
        rfl
      refine pure_ (i := 30) (N := some 82) (v := ?_) (a' := ?_) #[true, true, true, true, true, true, true, true, true, true, true, true, true, true, true, true, true, true, true, true, true, true, true, true, true, true, true, true, true, true, true, false, false, false, false, false, false, false, false, false, false] rfl rfl (by kernel_rfl) (fun _ _ _ h => h) (Or.inl ⟨by rfl, ?_⟩) ?_ ?_
      rotate_left
      · intro w'
        go_simp
        with_reducible rfl
      rotate_left
      · simp only [Act.put, List.setIfInBounds_toArray, List.set_cons_zero, List.set_cons_succ, i64_w, i32_w]
        rfl
      refine pure_ (i := 31) (N := some 83) (v := ?_) (a' := ?_) #[true, true, true, true, true, true, true, true, true, true, true, true, true, true, true, true, true, true, true, true, true, true, true, true, true, true, true, true, true, true, true, true, false, false, false, false, false, false, false, false, false] rfl rfl (by kernel_rfl) (fun _ _ _ h => h) (Or.inl ⟨by rfl, ?_⟩) ?_ ?_
      rotate_left
      · intro w'
        go_simp
        with_reducible rfl
      rotate_left
      · simp only [Act.put, List.setIfInBounds_toArray, List.set_cons_zero, List.set_cons_succ, i64_w, i32_w]
        rfl
      refine pure_ (i := 32) (N := some 84) (v := ?_) (a' := ?_) #[true, true, true, true, true, true, true, true, true, true, true, true, true, true, true, true, true, true, true, true, true, true, true, true, true, true, true, true, true, true, true, true, true, false, false, false, false, false, false, false, false] rfl rfl (by kernel_rfl) (fun _ _ _ h => h) (Or.inl ⟨by rfl, ?_⟩) ?_ ?_
      rotate_left
      · intro w'
        go_simp
        with_reducible rfl
      rotate_left
      · simp only [Act.put, List.setIfInBounds_toArray, List.set_cons_zero, List.set_cons_succ, i64_w, i32_w]
        rfl
      refine pure_ (i := 33) (N := some 85) (v := ?_) (a' := ?_) #[true, true, true, true, true, true, true, true, true, true, true, true, true, true, true, true, true, true, true, true, true, true, true, true, true, true, true, true, true, true, true, true, true, true, false, false, false, false, false, false, false] rfl rfl (by kernel_rfl) (fun _ _ _ h => h) (Or.inl ⟨by rfl, ?_⟩) ?_ ?_
      rotate_left
      · intro w'
        go_simp
        with_reducible rfl
      rotate_left
      · simp only [Act.put, List.setIfInBounds_toArray, List.set_cons_zero, List.set_cons_succ, i64_w, i32_w]
        rfl
      refine pure_ (i := 34) (N := some 86) (v := ?_) (a' := ?_) #[true, true, true, true, true, true, true, true, true, true, true, true, true, true, true, true, true, true, true, true, true, true, true, true, true, true, true, true, true, true, true, true, true, true, true, false, false, false, false, false, false] rfl rfl (by kernel_rfl) (fun _ _ _ h => h) (Or.inl ⟨by rfl, ?_⟩) ?_ ?_
      rotate_left
      · intro w'
        go_simp
        with_reducible rfl
      rotate_left
      · simp only [Act.put, List.setIfInBounds_toArray, List.set_cons_zero, List.set_cons_succ, i64_w, i32_w]
        rfl
      refine pure_ (i := 35) (N := some 87) (v := ?_) (a' := ?_) #[true, true, true, true, true, true, true, true, true, true, true, true, true, true, true, true, true, true, true, true, true, true, true, true, true, true, true, true, true, true, true, true, true, true, true, true, false, false, false, false, false] rfl rfl (by kernel_rfl) (fun _ _ _ h => h) (Or.inl ⟨by rfl, ?_⟩) ?_ ?_
      rotate_left
      · intro w'
        go_simp
        with_reducible rfl
      rotate_left
      · simp only [Act.put, List.setIfInBounds_toArray, List.set_cons_zero, List.set_cons_succ, i64_w, i32_w]
        rfl
      refine pure_ (i := 36) (N := some 88) (v := ?_) (a' := ?_) #[true, true, true, true, true, true, true, true, true, true, true, true, true, true, true, true, true, true, true, true, true, true, true, true, true, true, true, true, true, true, true, true, true, true, true, true, true, false, false, false, false] rfl rfl (by kernel_rfl) (fun _ _ _ h => h) (Or.inl ⟨by rfl, ?_⟩) ?_ ?_
      rotate_left
      · intro w'
        go_simp
        with_reducible rfl
      rotate_left
      · simp only [Act.put, List.setIfInBounds_toArray, List.set_cons_zero, List.set_cons_succ, i64_w, i32_w]
        rfl
      refine pure_ (i := 37) (N := some 89) (v := ?_) (a' := ?_) #[true, true, true, true, true, true, true, true, true, true, true, true, true, true, true, true, true, true, true, true, true, true, true, true, true, true, true, true, true, true, true, true, true, true, true, true, true, true, false, false, false] rfl rfl (by kernel_rfl) (fun _ _ _ h => h) (Or.inl ⟨by rfl, ?_⟩) ?_ ?_
      rotate_left
      · intro w'
        go_simp
        with_reducible rfl
      rotate_left
      · simp only [Act.put, List.setIfInBounds_toArray, List.set_cons_zero, List.set_cons_succ, i64_w, i32_w]
        rfl
      refine pure_ (i := 38) (N := some 90) (v := ?_) (a' := ?_) #[true, true, true, true, true, true, true, true, true, true, true, true, true, true, true, true, true, true, true, true, true, true, true, true, true, true, true, true, true, true, true, true, true, true, true, true, true, true, true, false, false] rfl rfl (by kernel_rfl) (fun _ _ _ h => h) (Or.inl ⟨by rfl, ?_⟩) ?_ ?_
      rotate_left
      · intro w'
        go_simp
        with_reducible rfl
      rotate_left
      · simp only [Act.put, List.setIfInBounds_toArray, List.set_cons_zero, List.set_cons_succ, i64_w, i32_w]
        rfl
      refine pure_ (i := 39) (N := some 91) (v := ?_) (a' := ?_) #[true, true, true, true, true, true, true, true, true, true, true, true, true, true, true, true, true, true, true, true, true, true, true, true, true, true, true, true, true, true, true, true, true, true, true, true, true, true, true, true, false] rfl rfl (by kernel_rfl) (fun _ _ _ h => h) (Or.inl ⟨by rfl, ?_⟩) ?_ ?_
      rotate_left
      · intro w'
        go_simp
        with_reducible rfl
      rotate_left
      · simp only [Act.put, List.setIfInBounds_toArray, List.set_cons_zero, List.set_cons_succ, i64_w, i32_w]
        rfl
      refine pure_ (i := 40) (N := some 4) (v := ?_) (a' := ?_) #[true, true, true, true, true, true, true, true, true, true, true, true, true, true, true, true, true, true, true, true, true, true, true, true, true, true, true, true, true, true, true, true, true, true, true, true, true, true, true, true, true] rfl rfl (by kernel_rfl) (fun _ _ _ h => h) (Or.inl ⟨by rfl, ?_⟩) ?_ ?_
      rotate_left
      · intro w'
        go_simp
        with_reducible rfl
      rotate_left
      · simp only [Act.put, List.setIfInBounds_toArray, List.set_cons_zero, List.set_cons_succ, i64_w, i32_w]
        rfl
      refine done_ (by kernel_rfl) ?_
      go_wp2_with fail
      go_ret
      exact ⟨rfl, by rw [hga]; exact below_then HB0.out HSZ.out (below_step HBZ.out hB12)⟩
end Go.Proofs.Ytkmmkoiibcdmeaa
