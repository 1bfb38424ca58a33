/- The law SectorPlays, walked. -/
import Derived.Test.YtacpeilgjaodbaaRL
import Derived.Test.YtacpeilgjaodbaaC2
namespace Go.Proofs.Ytacpeilgjaodbaa
open Go.RowKit Go.Proofs.YtacpeilgjaodbaaW.PrintWords Go.Proofs.YtacpeilgjaodbaaW.PrintLast Go.Proofs.YtacpeilgjaodbaaW.PrintMore
attribute [local go_sem] max2_int min2_int max_two min_two
set_option linter.unusedVariables false
set_option linter.unusedSimpArgs false
theorem Two.below {w w' : World} {B g r B2 q : Nat} {D : Dk} {R : Rk} (h : Two w B g r B2 q D R) (hb : Below w.heap.size w w') : Two w' B g r B2 q D R :=
  ⟨h.dk.below hb, h.rk.keep (KeepT.of_below (T := []) hb) (by decide) (by decide), h.rel⟩
set_option maxRecDepth 100000 in
set_option maxHeartbeats 8000000 in
theorem plays_law (a0 : Int) (A : Option Addr) (c : Nat) (l : List QA.S31) (w : World) (ha : (Lit.int .i64 a0).wf = true) (hr : Kd.C QA.k31 w A l.length l) (hc : l.length ≤ c)
    (hw : l.length ≤ maxLen ∧ ∀ x0 ∈ l, ((Lit.int .i64 x0.f0).wf = true) ∧ ((Lit.int .i64 x0.f1).wf = true) ∧ ((Lit.int .i64 x0.f2).wf = true) ∧ (x0.f3.length ≤ maxLen ∧ ∀ x1 ∈ x0.f3, (Lit.int .u8 x1).wf = true)) :
    Calls Try.prog 3 #[.int .i64 a0, .slice A l.length c] w fun e w' => e = .returned (.bool true) ∧ Below w.heap.size w w' := by
  have HR := Lib.hid hr
  have HO := Lib.hid (ops_of hw)
  clear hr hw ha
  go_enter Try.func3, Try.ntmps3
  go_wp2_with fail
  refine (head_any _).mono ?_
  rintro e w1 ⟨rfl, hb1⟩
  have HB1 := Lib.hid hb1
  have HQ := Lib.hid (Kd.C_below HR.out hb1)
  clear hb1 HR
  go_wp2_with fail
  refine (new_any a0 w1).mono ?_
  rintro e w2 ⟨g, r, rfl, hd, hb⟩
  have HB2 := Lib.hid hb
  have HD2 := Lib.hid hd
  clear hb hd
  go_wp2_with fail
  refine (rnew_any a0 w2).mono ?_
  rintro e w3 ⟨q, v3, rfl, hq, hqb, hqr, hb⟩
  have HBB : Hid (w1.heap.size ≤ w2.heap.size) := Lib.hid HB2.out.size
  have HB3 := Lib.hid (below_then HB2.out HB2.out.size hb)
  have HT3 : Hid (∃ D R, Two w3 w1.heap.size g r w2.heap.size q D R) := Lib.hid ⟨_, _, HD2.out.below hb, ⟨⟨v3, _, _, _, hqb, by rw [List.map_replicate]; exact hqr⟩, hq, by show 0 < (List.replicate _ _).length; rw [List.length_replicate]; unfold manyOf; omega, by show (List.replicate _ _).length ≤ 256; rw [List.length_replicate]; unfold manyOf; omega⟩, rel_new a0⟩
  clear hb hq hqb hqr HD2 HB2
  go_wp2_with fail
  refine (great_any A c l w3 (Kd.C_below HQ.out HB3.out) hc).mono ?_
  rintro e w4 ⟨r3, rfl, hgreat, hb⟩
  have HB4 := Lib.hid (below_then HB3.out HB3.out.size hb)
  have HT4 : Hid (∃ D R, Two w4 w1.heap.size g r w2.heap.size q D R) := Lib.hid (by obtain ⟨D, R, h⟩ := HT3.out; exact ⟨D, R, h.below hb⟩)
  clear hb HT3 HB3
  cases r3 with
  | true =>
    clear hgreat
    go_wp2_with fail
    go_ret
    exact ⟨rfl, below_then HB1.out HB1.out.size HB4.out⟩
  | false =>
    have HG := Lib.hid (hgreat rfl)
    clear hgreat
    go_wp2_with fail
    go_loopg [8] l.length (fun kq v8 w' => ∃ (i : Nat), v8 = .int .i64 (i : Int) ∧ Hid (i ≤ l.length ∧ kq = l.length - i) ∧ Hid (∃ D R, Two w' w1.heap.size g r w2.heap.size q D R) ∧ Hid (Below w1.heap.size w1 w'))
    case atStart => exact ⟨0, rfl, Lib.hid ⟨by omega, by omega⟩, HT4, HB4⟩
    case round =>
      clear HT4 HB4
      obtain ⟨i, rfl, HA, HD, HB⟩ := hrel
      by_cases hi : (i : Int) < (l.length : Int)
      · have hiN : i < l.length := by omega
        have hl400 : l.length ≤ 400 := HG.out.1
        have HBY := Lib.hid (HO.out.byt i hiN)
        have HA63 := Lib.hid (HO.out.at63 i hiN)
        obtain ⟨ad, A1, c1, rfl, hf0, hf1, hf2, hf3, hcl, hC1⟩ := QA.at_T31 HQ.out (i : Int) (by omega) hi
        simp only [Int.toNat_natCast] at hf0 hf1 hf2 hf3
        obtain ⟨x, hx⟩ : ∃ x, QA.rd_T31 l (i : Int) = x := ⟨_, rfl⟩
        rw [hx] at hf0 hf1 hf2 hf3 hcl hC1 HBY HA63
        obtain ⟨f, at_, nn, b⟩ := x
        simp only at hf0 hf1 hf2 hf3 hcl hC1 HBY HA63
        have hbk := World.block_lt_of_cell? w1 _ hf0
        replace hf0 := (HB.out.cell hbk).trans hf0
        replace hf1 := (HB.out.cell (p := ⟨_, _, none⟩) hbk).trans hf1
        replace hf2 := (HB.out.cell (p := ⟨_, _, none⟩) hbk).trans hf2
        replace hf3 := (HB.out.cell (p := ⟨_, _, none⟩) hbk).trans hf3
        have HC1 := Lib.hid hC1
        obtain ⟨D, R, hT⟩ := HD.out
        clear hC1 hx hcl hbk HD HG
        by_cases h2 : f = 2
        · subst h2
          obtain ⟨y, e0, hro⟩ : ∃ y e0, readOf D at_ = (y, e0) := ⟨_, _, rfl⟩
          have HRO := Lib.hid hro
          have HRR := Lib.hid ((rel_read hT.rel at_).trans hro)
          have HT := Lib.hid hT
          clear hro hT
          go_wp2_with fail
          have hal := below_alloc (Below.refl wr.heap.size wr) (.cells #[.int .i64 2, .int .i64 at_, .int .i64 nn, .slice A1 b.length c1] 31)
          have hT0 := HT.out.below hal
          refine (read_any w1.heap.size g r D at_ _ hT0.dk _ HRO.out).mono ?_
          rintro e w5 ⟨A5, d5, rfl, hd5, hc5, hb⟩
          have HT5 := Lib.hid (hT0.below hb)
          have hblk := blk_below (blk_new wr _) hb
          have ho1 : w5.cell? ⟨wr.heap.size, 1, none⟩ = some (.int .i64 at_) := (blk_cell hblk 1).trans rfl
          have HB5 := Lib.hid (below_step (below_alloc HB.out _) hb)
          have HC5 := Lib.hid hc5
          clear hal hT0 hb hblk hc5 hf0 hf1 hf2 hf3
          go_wp2_with fail
          refine (rread_any w2.heap.size q R at_ _ HT5.out.rk (HT5.out.rel.secs HT5.out.dk.len HT5.out.dk.byt) _ HRR.out).mono ?_
          rintro e w7 ⟨A6, d6, rfl, hd6, hc6, hb⟩
          have HT7 := Lib.hid (HT5.out.below hb)
          have HB7 := Lib.hid (below_step HB5.out hb)
          have hcv1 : (convert 29 9 (.slice A5 y.length d5)).run Try.prog w7 = .ok (.string (strOfNums y)) w7 := str_of HC5.out hb
          have hcv2 : (convert 29 9 (.slice A6 y.length d6)).run Try.prog w7 = .ok (.string (strOfNums y)) w7 := str_of hc6 (Below.refl _ _)
          have hq2 : ((strOfNums y).toList != (strOfNums y).toList) = false := by simp
          have hq3 : (e0 != e0) = false := by simp
          obtain ⟨D', hD'⟩ : ∃ D', D' = D := ⟨_, rfl⟩
          obtain ⟨R', hR'⟩ : ∃ R', R' = R := ⟨_, rfl⟩
          rw [← hD', ← hR'] at HT7
          clear hb hc6 HT5 HC5 HB5 ho1 hD' hR' HT HRO HRR HB
          go_wp2_with fail
          refine (down_any w1.heap.size g r D' w7 HT7.out.dk).mono ?_
          rintro e w8 ⟨rfl, rfl⟩
          go_wp2_with fail
          refine (rdown_any w2.heap.size q R' w7 HT7.out.rk).mono ?_
          rintro e w8 ⟨rfl, rfl⟩
          rw [HT7.out.rel.down]
          have hqd : (D'.down != D'.down) = false := by simp
          go_wp2_with fail
          refine (writes_any w1.heap.size g r D' w7 HT7.out.dk).mono ?_
          rintro e w8 ⟨rfl, rfl⟩
          go_wp2_with fail
          refine (rwrites_any w2.heap.size q R' w7 HT7.out.rk).mono ?_
          rintro e w8 ⟨rfl, rfl⟩
          rw [HT7.out.rel.wrote]
          have hqw : (D'.wrote != D'.wrote) = false := by simp
          go_wp2_with fail
          refine (many_any w1.heap.size g r D' w7 HT7.out.dk).mono ?_
          rintro e w8 ⟨rfl, rfl⟩
          go_wp2_with fail
          refine (rmany_any w2.heap.size q R' w7 HT7.out.rk).mono ?_
          rintro e w8 ⟨rfl, rfl⟩
          rw [HT7.out.rel.len]
          have hqn : ((D'.n : Int) != (D'.n : Int)) = false := by simp
          go_wp2_with fail
          go_roundg (l.length - (i + 1))
          case measure => have := HA.out; omega
          case rel => exact ⟨i + 1, by go_num, Lib.hid ⟨by omega, rfl⟩, Lib.hid ⟨D', R', HT7.out⟩, HB7⟩
        have hf2' : (f == 2) = false := beq_eq_false_iff_ne.mpr h2
        by_cases h3 : f = 3
        · subst h3
          have HT := Lib.hid hT
          obtain ⟨D', hD'⟩ : ∃ D', cut D at_ nn = D' := ⟨_, rfl⟩
          obtain ⟨R', hR'⟩ : ∃ R', rcut R at_ nn = R' := ⟨_, rfl⟩
          have hrel := rel_cut hT.rel at_ nn HA63.out
          rw [hD', hR'] at hrel
          have HREL := Lib.hid hrel
          have HDD := Lib.hid hD'
          have HRD := Lib.hid hR'
          clear hT hrel hD' hR'
          go_wp2_with fail
          have hal := below_alloc (Below.refl wr.heap.size wr) (.cells #[.int .i64 3, .int .i64 at_, .int .i64 nn, .slice A1 b.length c1] 31)
          have hT0 := HT.out.below hal
          have hct := cut_any w1.heap.size g r D at_ nn _ hT0.dk HA63.out
          rw [HDD.out] at hct
          refine hct.mono ?_
          rintro e w5 ⟨⟨v5, rfl⟩, hdk, hb, hkt⟩
          have hblk := hkt.cells (blk_new wr _) (by decide)
          have hrk5 := hT0.rk.keep hkt (by decide) (by decide)
          have HK5 := Lib.hid (And.intro hdk hrk5)
          have HBLK := Lib.hid hblk
          have ho1 : w5.cell? ⟨wr.heap.size, 1, none⟩ = some (.int .i64 at_) := (blk_cell hblk 1).trans rfl
          have ho2 : w5.cell? ⟨wr.heap.size, 2, none⟩ = some (.int .i64 nn) := (blk_cell hblk 2).trans rfl
          have HB5 := Lib.hid ((below_alloc HB.out (.cells #[.int .i64 3, .int .i64 at_, .int .i64 nn, .slice A1 b.length c1] 31)).trans hb)
          clear hal hT0 hb hblk hdk hrk5 hkt hct hf0 hf1 hf2 hf3
          go_wp2_with fail
          have hct := rcut_any w2.heap.size q R at_ nn _ HK5.out.2
          rw [HRD.out] at hct
          refine hct.mono ?_
          rintro e w7 ⟨⟨v7, rfl⟩, hrk, hb, hkt⟩
          have HT7 : Hid (Two w7 w1.heap.size g r w2.heap.size q D' R') := Lib.hid ⟨HK5.out.1.keep hkt (by decide) (by decide) (by decide), hrk, HREL.out⟩
          have HB7 := Lib.hid (HB5.out.trans (hb.mono HBB.out))
          clear hb hrk hkt hct HK5 HB5 ho1 ho2 HT HREL HDD HRD HBLK HB
          go_wp2_with fail
          refine (down_any w1.heap.size g r D' w7 HT7.out.dk).mono ?_
          rintro e w8 ⟨rfl, rfl⟩
          go_wp2_with fail
          refine (rdown_any w2.heap.size q R' w7 HT7.out.rk).mono ?_
          rintro e w8 ⟨rfl, rfl⟩
          rw [HT7.out.rel.down]
          have hqd : (D'.down != D'.down) = false := by simp
          go_wp2_with fail
          refine (writes_any w1.heap.size g r D' w7 HT7.out.dk).mono ?_
          rintro e w8 ⟨rfl, rfl⟩
          go_wp2_with fail
          refine (rwrites_any w2.heap.size q R' w7 HT7.out.rk).mono ?_
          rintro e w8 ⟨rfl, rfl⟩
          rw [HT7.out.rel.wrote]
          have hqw : (D'.wrote != D'.wrote) = false := by simp
          go_wp2_with fail
          refine (many_any w1.heap.size g r D' w7 HT7.out.dk).mono ?_
          rintro e w8 ⟨rfl, rfl⟩
          go_wp2_with fail
          refine (rmany_any w2.heap.size q R' w7 HT7.out.rk).mono ?_
          rintro e w8 ⟨rfl, rfl⟩
          rw [HT7.out.rel.len]
          have hqn : ((D'.n : Int) != (D'.n : Int)) = false := by simp
          go_wp2_with fail
          go_roundg (l.length - (i + 1))
          case measure => have := HA.out; omega
          case rel => exact ⟨i + 1, by go_num, Lib.hid ⟨by omega, rfl⟩, Lib.hid ⟨D', R', HT7.out⟩, HB7⟩
        have hf3' : (f == 3) = false := beq_eq_false_iff_ne.mpr h3
        by_cases h4 : f = 4
        · subst h4
          have HT := Lib.hid hT
          obtain ⟨D', hD'⟩ : ∃ D', boot D = D' := ⟨_, rfl⟩
          obtain ⟨R', hR'⟩ : ∃ R', rboot R = R' := ⟨_, rfl⟩
          have hrel := rel_boot hT.rel
          rw [hD', hR'] at hrel
          have HREL := Lib.hid hrel
          have HDD := Lib.hid hD'
          have HRD := Lib.hid hR'
          clear hT hrel hD' hR'
          go_wp2_with fail
          have hal := below_alloc (Below.refl wr.heap.size wr) (.cells #[.int .i64 4, .int .i64 at_, .int .i64 nn, .slice A1 b.length c1] 31)
          have hT0 := HT.out.below hal
          have hct := boot_any w1.heap.size g r D _ hT0.dk
          rw [HDD.out] at hct
          refine hct.mono ?_
          rintro e w5 ⟨⟨v5, rfl⟩, hdk, hb, hkt⟩
          have hrk5 := hT0.rk.keep hkt (by decide) (by decide)
          have HK5 := Lib.hid (And.intro hdk hrk5)
          have HB5 := Lib.hid ((below_alloc HB.out (.cells #[.int .i64 4, .int .i64 at_, .int .i64 nn, .slice A1 b.length c1] 31)).trans hb)
          clear hal hT0 hb hdk hrk5 hkt hct hf0 hf1 hf2 hf3
          go_wp2_with fail
          have hct := rboot_any w2.heap.size q R _ HK5.out.2
          rw [HRD.out] at hct
          refine hct.mono ?_
          rintro e w7 ⟨⟨v7, rfl⟩, hrk, hb, hkt⟩
          have HT7 : Hid (Two w7 w1.heap.size g r w2.heap.size q D' R') := Lib.hid ⟨HK5.out.1.keep hkt (by decide) (by decide) (by decide), hrk, HREL.out⟩
          have HB7 := Lib.hid (HB5.out.trans (hb.mono HBB.out))
          clear hb hrk hkt hct HK5 HB5 HT HREL HDD HRD HB
          go_wp2_with fail
          refine (down_any w1.heap.size g r D' w7 HT7.out.dk).mono ?_
          rintro e w8 ⟨rfl, rfl⟩
          go_wp2_with fail
          refine (rdown_any w2.heap.size q R' w7 HT7.out.rk).mono ?_
          rintro e w8 ⟨rfl, rfl⟩
          rw [HT7.out.rel.down]
          have hqd : (D'.down != D'.down) = false := by simp
          go_wp2_with fail
          refine (writes_any w1.heap.size g r D' w7 HT7.out.dk).mono ?_
          rintro e w8 ⟨rfl, rfl⟩
          go_wp2_with fail
          refine (rwrites_any w2.heap.size q R' w7 HT7.out.rk).mono ?_
          rintro e w8 ⟨rfl, rfl⟩
          rw [HT7.out.rel.wrote]
          have hqw : (D'.wrote != D'.wrote) = false := by simp
          go_wp2_with fail
          refine (many_any w1.heap.size g r D' w7 HT7.out.dk).mono ?_
          rintro e w8 ⟨rfl, rfl⟩
          go_wp2_with fail
          refine (rmany_any w2.heap.size q R' w7 HT7.out.rk).mono ?_
          rintro e w8 ⟨rfl, rfl⟩
          rw [HT7.out.rel.len]
          have hqn : ((D'.n : Int) != (D'.n : Int)) = false := by simp
          go_wp2_with fail
          go_roundg (l.length - (i + 1))
          case measure => have := HA.out; omega
          case rel => exact ⟨i + 1, by go_num, Lib.hid ⟨by omega, rfl⟩, Lib.hid ⟨D', R', HT7.out⟩, HB7⟩
        have hf4' : (f == 4) = false := beq_eq_false_iff_ne.mpr h4
        clear h2 h3 h4
        have HT := Lib.hid hT
        obtain ⟨e0, D', hD'⟩ : ∃ e0 D', writeOf D at_ b = (e0, D') := ⟨_, _, rfl⟩
        obtain ⟨e1, R', hR'⟩ : ∃ e1 R', rwriteOf R at_ b = (e1, R') := ⟨_, _, rfl⟩
        have hrel := rel_write hT.rel hT.dk.len at_ b
        rw [hD', hR'] at hrel
        obtain ⟨he, hrel⟩ := hrel
        simp only at he hrel
        subst he
        have HREL := Lib.hid hrel
        have HDD := Lib.hid hD'
        have HRD := Lib.hid hR'
        clear hT hrel hD' hR'
        go_wp2_with fail
        have hal := below_alloc (Below.refl wr.heap.size wr) (.cells #[.int .i64 f, .int .i64 at_, .int .i64 nn, .slice A1 b.length c1] 31)
        have hT0 := HT.out.below hal
        refine (write_any w1.heap.size g r D at_ A1 c1 b _ hT0.dk HBY.out (Kd.C_below HC1.out (below_alloc HB.out _)) _ HDD.out).mono ?_
        rintro e w5 ⟨rfl, hdk, hb, hkt⟩
        have hblk := hkt.cells (blk_new wr _) (by decide)
        have hrk5 := hT0.rk.keep hkt (by decide) (by decide)
        have HK5 := Lib.hid (And.intro hdk hrk5)
        have ho1 : w5.cell? ⟨wr.heap.size, 1, none⟩ = some (.int .i64 at_) := (blk_cell hblk 1).trans rfl
        have ho3 : w5.cell? ⟨wr.heap.size, 3, none⟩ = some (.slice A1 b.length c1) := (blk_cell hblk 3).trans rfl
        have HB5 := Lib.hid ((below_alloc HB.out (.cells #[.int .i64 f, .int .i64 at_, .int .i64 nn, .slice A1 b.length c1] 31)).trans hb)
        clear hal hT0 hb hblk hdk hrk5 hkt hf0 hf1 hf2 hf3
        go_wp2_with fail
        have hct := rwrite_any w2.heap.size q R at_ A1 c1 b _ HK5.out.2 HBY.out (Kd.C_below HC1.out HB5.out) (HT.out.rel.secs HT.out.dk.len HT.out.dk.byt) HT.out.rel.byt HT.out.rel.aft
        rw [HRD.out] at hct
        refine hct.mono ?_
        rintro e w7 ⟨rfl, hrk, hb, hkt⟩
        have HT7 : Hid (Two w7 w1.heap.size g r w2.heap.size q D' R') := Lib.hid ⟨HK5.out.1.keep hkt (by decide) (by decide) (by decide), hrk, HREL.out⟩
        have HB7 := Lib.hid (HB5.out.trans (hb.mono HBB.out))
        have hqe : (e1 != e1) = false := by simp
        clear hb hrk hkt hct HK5 HB5 ho1 ho3 HT HREL HDD HRD HB
        go_wp2_with fail
        refine (down_any w1.heap.size g r D' w7 HT7.out.dk).mono ?_
        rintro e w8 ⟨rfl, rfl⟩
        go_wp2_with fail
        refine (rdown_any w2.heap.size q R' w7 HT7.out.rk).mono ?_
        rintro e w8 ⟨rfl, rfl⟩
        rw [HT7.out.rel.down]
        have hqd : (D'.down != D'.down) = false := by simp
        go_wp2_with fail
        refine (writes_any w1.heap.size g r D' w7 HT7.out.dk).mono ?_
        rintro e w8 ⟨rfl, rfl⟩
        go_wp2_with fail
        refine (rwrites_any w2.heap.size q R' w7 HT7.out.rk).mono ?_
        rintro e w8 ⟨rfl, rfl⟩
        rw [HT7.out.rel.wrote]
        have hqw : (D'.wrote != D'.wrote) = false := by simp
        go_wp2_with fail
        refine (many_any w1.heap.size g r D' w7 HT7.out.dk).mono ?_
        rintro e w8 ⟨rfl, rfl⟩
        go_wp2_with fail
        refine (rmany_any w2.heap.size q R' w7 HT7.out.rk).mono ?_
        rintro e w8 ⟨rfl, rfl⟩
        rw [HT7.out.rel.len]
        have hqn : ((D'.n : Int) != (D'.n : Int)) = false := by simp
        go_wp2_with fail
        go_roundg (l.length - (i + 1))
        case measure => have := HA.out; omega
        case rel => exact ⟨i + 1, by go_num, Lib.hid ⟨by omega, rfl⟩, Lib.hid ⟨D', R', HT7.out⟩, HB7⟩
      · obtain ⟨D0, R0, hT⟩ := HD.out
        have HT := Lib.hid hT
        obtain ⟨D, hD'⟩ : ∃ D', boot D0 = D' := ⟨_, rfl⟩
        obtain ⟨R, hR'⟩ : ∃ R', rboot R0 = R' := ⟨_, rfl⟩
        have hrel := rel_boot hT.rel
        rw [hD', hR'] at hrel
        have HREL := Lib.hid hrel
        have HDD := Lib.hid hD'
        have HRD := Lib.hid hR'
        have hup : D.down = false := by rw [← hD']; rfl
        have HUP := Lib.hid hup
        clear hT hrel hD' hR' HD HG hup
        go_wp2_with fail
        have hct := boot_any w1.heap.size g r D0 _ HT.out.dk
        rw [HDD.out] at hct
        refine hct.mono ?_
        rintro e w5 ⟨⟨v5, rfl⟩, hdk, hb, hkt⟩
        have HK5 := Lib.hid (And.intro hdk (HT.out.rk.keep hkt (by decide) (by decide)))
        have HB5 := Lib.hid (HB.out.trans hb)
        clear hb hdk hkt hct
        go_wp2_with fail
        have hct := rboot_any w2.heap.size q R0 _ HK5.out.2
        rw [HRD.out] at hct
        refine hct.mono ?_
        rintro e w7 ⟨⟨v7, rfl⟩, hrk, hb, hkt⟩
        have HT7 : Hid (Two w7 w1.heap.size g r w2.heap.size q D R) := Lib.hid ⟨HK5.out.1.keep hkt (by decide) (by decide) (by decide), hrk, HREL.out⟩
        have HB7 := Lib.hid (HB5.out.trans (hb.mono HBB.out))
        clear hb hrk hkt hct HK5 HB5 HT HREL HDD HRD HB HA hi
        go_wp2_with fail
        go_loopg [16] D.n (fun kq v16 w' => ∃ (j : Nat), v16 = .int .i64 (j : Int) ∧ Hid (j ≤ D.n ∧ kq = D.n - j) ∧ Hid (Two w' w1.heap.size g r w2.heap.size q D R) ∧ Hid (Below w1.heap.size w1 w'))
        case atStart => exact ⟨0, rfl, Lib.hid ⟨by omega, by omega⟩, HT7, HB7⟩
        case round =>
          clear HT7 HB7
          obtain ⟨j, rfl, HA, HT, HB⟩ := hrel
          go_wp2_with fail
          refine (rmany_any w2.heap.size q R _ HT.out.rk).mono ?_
          rintro e w8 ⟨rfl, rfl⟩
          rw [HT.out.rel.len]
          have hn256 : D.n ≤ 256 := HT.out.dk.big
          by_cases hj : (j : Int) < (D.n : Int)
          · have hro := readOf_up D j HUP.out (by omega)
            obtain ⟨y, hy⟩ : ∃ y, sect D j = y := ⟨_, rfl⟩
            rw [hy] at hro
            have HRO := Lib.hid hro
            have HRR := Lib.hid ((rel_read HT.out.rel (j : Int)).trans hro)
            clear hro hy
            go_wp2_with fail
            refine (read_any w1.heap.size g r D (j : Int) _ HT.out.dk _ HRO.out).mono ?_
            rintro e w5 ⟨A5, d5, rfl, hd5, hc5, hb⟩
            have HT5 := Lib.hid (HT.out.below hb)
            have HB5 := Lib.hid (below_step HB.out hb)
            have HC5 := Lib.hid hc5
            clear hb hc5
            go_wp2_with fail
            refine (rread_any w2.heap.size q R (j : Int) _ HT5.out.rk (HT5.out.rel.secs HT5.out.dk.len HT5.out.dk.byt) _ HRR.out).mono ?_
            rintro e w7 ⟨A6, d6, rfl, hd6, hc6, hb⟩
            have HT7 := Lib.hid (HT5.out.below hb)
            have HB7 := Lib.hid (below_step HB5.out hb)
            have hcv1 : (convert 29 9 (.slice A5 y.length d5)).run Try.prog w7 = .ok (.string (strOfNums y)) w7 := str_of HC5.out hb
            have hcv2 : (convert 29 9 (.slice A6 y.length d6)).run Try.prog w7 = .ok (.string (strOfNums y)) w7 := str_of hc6 (Below.refl _ _)
            have hq2 : ((strOfNums y).toList != (strOfNums y).toList) = false := by simp
            clear hb hc6 HT5 HC5 HB5 HT HRO HRR HB
            go_wp2_with fail
            go_roundg (D.n - (j + 1))
            case measure => have := HA.out; omega
            case rel => exact ⟨j + 1, by go_num, Lib.hid ⟨by omega, rfl⟩, HT7, HB7⟩
          · go_wp2_with fail
            go_ret
            exact ⟨rfl, below_then HB1.out HB1.out.size HB.out⟩
end Go.Proofs.Ytacpeilgjaodbaa
