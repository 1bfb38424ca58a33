/- The reference's Sum, Seal and Open, walked. -/
import Derived.Test.YtafkabkoglbndaaCPT
import Derived.Test.YtafkabkoglbndaaCA5
namespace Go.Proofs.Ytafkabkoglbndaa
open Go.RowKit Go.Proofs.YtafkabkoglbndaaW.PrintWords Go.Proofs.YtafkabkoglbndaaW.PrintLast
theorem rsum_any (A : Option Addr) (c : Nat) (l : List Int) (w : World) (hn : l.length ≤ 1000000) (hb : Bytes l) (hr : Kd.C (Kd.int .u8) w A l.length l) (hc : l.length ≤ c) :
    Calls Try.prog 27 #[.slice A l.length c] w fun e w' => e = .returned (.int .u16 (sum l : Nat)) ∧ Below w.heap.size w w' := by
  refine (QA.watchkeeperref01_Sum.calls (10 * l.length + 1) A c l _ w hr hc (rsum_f hb hn)).mono ?_
  rintro e w' ⟨rfl, h⟩
  exact ⟨rfl, h.below⟩
theorem rseal_calls (A : Option Addr) (c : Nat) (l : List Int) (w : World) (hn : l.length ≤ 1000000) (hb : Bytes l) (hr : Kd.C (Kd.int .u8) w A l.length l) (hc : l.length ≤ c) (m : List Int) (hm : sealOf l = m) :
    Calls Try.prog 26 #[.slice A l.length c] w fun e w' => ∃ B d, e = .returned (.slice B m.length d) ∧ m.length ≤ d ∧ Kd.C (Kd.int .u8) w' B m.length m ∧ Below w.heap.size w w' := by
  subst hm
  refine (QA.watchkeeperref01_Seal.calls (10 * l.length + 1) A c l _ w hr hc (rseal_f hb hn)).mono ?_
  rintro e w' ⟨v, rfl, ho, hb⟩
  obtain ⟨B, d, e⟩ := Kd.R_slice ho
  have e' : v = .slice B (sealOf l).length d := e
  subst e'
  obtain ⟨_, h2, h3⟩ := Kd.R_reads' ho
  exact ⟨B, d, rfl, h2, h3, hb⟩
theorem infob5 : (Try.prog.info? 5).map (fun i => (i.zero, i.size, i.bytes)) = some (some (.int .u8 0), 1, 1) := by kernel_rfl
set_option maxRecDepth 100000 in
set_option maxHeartbeats 2000000 in
theorem ropen_any (A : Option Addr) (c : Nat) (l : List Int) (w : World) (hn : l.length ≤ 1000000) (hb : Bytes l) (hr : Kd.C (Kd.int .u8) w A l.length l) (hc : l.length ≤ c) :
    Calls Try.prog 23 #[.slice A l.length c] w fun e w' => ∃ v, e = .returned (.tuple #[v, .bool (decide (2 ≤ l.length ∧ sum l = 0))]) ∧ Kd.R (Kd.int .u8) 5 w' w.heap.size (fun _ => True) v (if 2 ≤ l.length ∧ sum l = 0 then l.take (l.length - 2) else []) ∧ Below w.heap.size w w' := by
  have HR := Lib.hid hr
  have HBY := Lib.hid hb
  clear hr hb
  by_cases h2 : 2 ≤ l.length
  · have hs2 := sum_two l HBY.out h2
    have hw : wrap64 ((l.length : Int) - 2) = ((l.length - 2 : Nat) : Int) := by unfold wrap64; omega
    have hw1 : wrap64 (((l.length - 2 : Nat) : Int) + 1) = ((l.length - 1 : Nat) : Int) := by unfold wrap64; omega
    have htk : (l.take (l.length - 2)).length = l.length - 2 := by rw [List.length_take]; omega
    obtain ⟨i0, hi0, _, hsz, _⟩ := info_parts infob5
    obtain ⟨hcut, hA, hC⟩ := print_take_of (P := Try.prog) (Value.int .u8) 0 22 5 .i64 Try.underlying22 hi0 hsz A c l ((l.length - 2 : Nat) : Int) (by omega) (by omega) hc
    have HT := Lib.hid (Kd.C_of_reads (h1 := fun _ => rfl) (hA _ (Kd.reads_of_C HR.out)))
    clear hA hC hi0 hsz
    simp only [Int.toNat_natCast] at HT hcut
    rw [htk] at hcut
    have hbt := bytes_take HBY.out (l.length - 2)
    have hslt := sum_lt hbt
    have hnt : (l.take (l.length - 2)).length ≤ 1000000 := by omega
    have HBT := Lib.hid hbt
    clear hbt
    obtain ⟨ad, rfl, hx⟩ := Kd.at_int HR.out ((l.length - 2 : Nat) : Int) (by omega) (by omega)
    obtain ⟨ad', e2, hy⟩ := Kd.at_int HR.out ((l.length - 1 : Nat) : Int) (by omega) (by omega)
    obtain rfl : ad = ad' := by injection e2
    clear e2
    have hp : 0 ≤ rd l ((l.length - 2 : Nat) : Int) ∧ rd l ((l.length - 2 : Nat) : Int) ≤ 255 := by rw [rd_at l _ (by omega)]; exact HBY.out _ (List.getElem_mem _)
    have hq : 0 ≤ rd l ((l.length - 1 : Nat) : Int) ∧ rd l ((l.length - 1 : Nat) : Int) ≤ 255 := by rw [rd_at l _ (by omega)]; exact HBY.out _ (List.getElem_mem _)
    generalize rd l ((l.length - 2 : Nat) : Int) = p at hx hs2 hp
    generalize rd l ((l.length - 1 : Nat) : Int) = q at hy hs2 hq
    simp only [Int.toNat_natCast] at hx hy
    rw [show l.length - 1 = l.length - 2 + 1 by omega, show ad.add (l.length - 2 + 1) = ⟨ad.block, ad.off + (l.length - 2 + 1), none⟩ from by unfold Addr.add; simp] at hy
    obtain ⟨t, htd⟩ : ∃ t, l.take (l.length - 2) = t := ⟨_, rfl⟩
    rw [htd] at HT HBT hs2 hslt hnt htk
    obtain ⟨s, hsd⟩ : ∃ s, sum t = s := ⟨_, rfl⟩
    rw [hsd] at hs2 hslt
    have h2i : ¬ ((l.length : Int) < 2) := by omega
    have hTC := rsum_any (some ad) c t
    rw [htk, hsd] at hTC
    have HTC := Lib.hid hTC
    have HTK := Lib.hid htk
    have HTD := Lib.hid htd
    rw [htk] at HT
    clear htk htd hsd hTC
    have hlc : l.length - 2 ≤ c := by omega
    have hml : ((l.length - 2 : Nat) : Int) < (l.length : Int) := by omega
    have hm1l : ((l.length - 1 : Nat) : Int) < (l.length : Int) := by omega
    have hlq : (0 : Int) ≤ (l.length : Int) - 2 := by omega
    have hlq1 : (l.length : Int) - 2 + 1 < (l.length : Int) := by omega
    have hm6 : l.length - 2 ≤ 1000000 := by omega
    have h8 : (s : Int) / 256 % 256 = (s : Int) / 256 := by omega
    by_cases hz : sum l = 0
    · rw [if_pos ⟨h2, hz⟩, decide_eq_true ⟨h2, hz⟩, HTD.out]
      obtain ⟨h3, h4⟩ := hs2.1 hz
      have hpb : (p == (s : Int) % 256) = true := by rw [h3]; simp
      have hpn : (p != (s : Int) % 256) = false := by rw [h3]; simp
      have hqb : (q == (s : Int) / 256) = true := by rw [h4, h8]; simp
      have hqn : (q != (s : Int) / 256) = false := by rw [h4, h8]; simp
      clear h3 h4 hs2 hz h8
      go_enter Try.func23, Try.ntmps23
      go_wp2_with fail
      refine (HTC.out w hm6 HBT.out HT.out hlc).mono ?_
      rintro e w1 ⟨rfl, hb1⟩
      replace hx := (hb1.cell (World.block_lt_of_cell? w _ hx)).trans hx
      replace hy := (hb1.cell (World.block_lt_of_cell? w _ hy)).trans hy
      have HT1 := Lib.hid (Kd.C_below HT.out hb1)
      have HB1 := Lib.hid hb1
      clear hb1 HT
      have HE : Hid (Kd.R (Kd.int .u8) 5 (w1.alloc (.cells #[] 5)) w.heap.size (fun _ => True) (.slice (some ⟨w1.heap.size, 0, none⟩) 0 0) []) := Lib.hid (R_empty _ w.heap.size w1.heap.size 0 #[] HB1.out.size (blk_new _ _) rfl (by decide))
      go_wp2_with (at_builtin; refine Kd.R_append_rows (Kd.int .u8) (w0 := w) w.heap.size rfl (.tmp 34) (.tmp 37) 22 5 (.int .u8 0) 1 rfl Try.underlying22 infob5 rfl (by decide) (by omega) _ [] t _ _ _ (fun _ => True) (fun _ => False) rfl rfl HE.out (Kd.C_alloc HT1.out _) (fun _ _ h => h) (fun _ h => h.elim) (fun _ _ => trivial) (below_alloc HB1.out _) (Nat.le_trans HB1.out.size (by simp)) (by simp; omega) ?_; intro v1 w2 ho hb hg hat)
      go_ret2
      exact ⟨_, rfl, ho, hb⟩
    · rw [if_neg (fun h => hz h.2), decide_eq_false (fun h => hz h.2)]
      by_cases h3 : p = (s : Int) % 256
      · have h4 : q ≠ (s : Int) / 256 % 256 := fun h4 => hz (hs2.2 ⟨h3, h4⟩)
        have hpb : (p == (s : Int) % 256) = true := by rw [h3]; simp
        have hpn : (p != (s : Int) % 256) = false := by rw [h3]; simp
        have hqb : (q == (s : Int) / 256) = false := beq_eq_false_iff_ne.mpr (by rw [← h8]; exact h4)
        have hqn : (q != (s : Int) / 256) = true := bne_iff_ne.mpr (by rw [← h8]; exact h4)
        clear h3 h4 hs2 hz h8
        go_enter Try.func23, Try.ntmps23
        go_wp2_with fail
        refine (HTC.out w hm6 HBT.out HT.out hlc).mono ?_
        rintro e w1 ⟨rfl, hb1⟩
        replace hx := (hb1.cell (World.block_lt_of_cell? w _ hx)).trans hx
        replace hy := (hb1.cell (World.block_lt_of_cell? w _ hy)).trans hy
        have HB1 := Lib.hid hb1
        clear hb1 HT
        go_wp2_with fail
        go_ret2
        exact ⟨_, rfl, Kd.R_nil _ _ _ _ _, HB1.out⟩
      · have hpb : (p == (s : Int) % 256) = false := beq_eq_false_iff_ne.mpr h3
        have hpn : (p != (s : Int) % 256) = true := bne_iff_ne.mpr h3
        clear h3 hs2 hz h8
        go_enter Try.func23, Try.ntmps23
        go_wp2_with fail
        refine (HTC.out w hm6 HBT.out HT.out hlc).mono ?_
        rintro e w1 ⟨rfl, hb1⟩
        replace hx := (hb1.cell (World.block_lt_of_cell? w _ hx)).trans hx
        replace hy := (hb1.cell (World.block_lt_of_cell? w _ hy)).trans hy
        have HB1 := Lib.hid hb1
        clear hb1 HT
        go_wp2_with fail
        go_ret2
        exact ⟨_, rfl, Kd.R_nil _ _ _ _ _, HB1.out⟩
  · rw [if_neg (fun h => h2 h.1), decide_eq_false (fun h => h2 h.1)]
    have h2i : ((l.length : Int) < 2) := by omega
    go_enter Try.func23, Try.ntmps23
    go_wp2_with fail
    go_ret2
    exact ⟨_, rfl, Kd.R_nil _ _ _ _ _, Below.refl _ _⟩
theorem seal_calls (A : Option Addr) (c : Nat) (l : List Int) (w : World) (hn : l.length ≤ 1000000) (hb : Bytes l) (hr : Kd.C (Kd.int .u8) w A l.length l) (hc : l.length ≤ c) (m : List Int) (hm : sealOf l = m) :
    Calls Try.prog 25 #[.slice A l.length c] w fun e w' => ∃ B d, e = .returned (.slice B m.length d) ∧ m.length ≤ d ∧ Kd.C (Kd.int .u8) w' B m.length m ∧ Below w.heap.size w w' := by
  subst hm
  refine (seal_any A c l w hn hb hr hc).mono ?_
  rintro e w' ⟨v, rfl, ho, hb⟩
  obtain ⟨B, d, e⟩ := Kd.R_slice ho
  have e' : v = .slice B (sealOf l).length d := e
  subst e'
  obtain ⟨_, h2, h3⟩ := Kd.R_reads' ho
  exact ⟨B, d, rfl, h2, h3, hb⟩
theorem open_calls (A : Option Addr) (c : Nat) (l m : List Int) (b : Bool) (w : World) (hn : l.length ≤ 1000000) (hb : Bytes l) (hr : Kd.C (Kd.int .u8) w A l.length l) (hc : l.length ≤ c)
    (hm : (if 2 ≤ l.length ∧ sum l = 0 then l.take (l.length - 2) else []) = m) (hbb : decide (2 ≤ l.length ∧ sum l = 0) = b) :
    Calls Try.prog 24 #[.slice A l.length c] w fun e w' => ∃ B d, e = .returned (.tuple #[.slice B m.length d, .bool b]) ∧ m.length ≤ d ∧ Kd.C (Kd.int .u8) w' B m.length m ∧ Below w.heap.size w w' := by
  subst hm hbb
  refine (open_any A c l w hn hb hr hc).mono ?_
  rintro e w' ⟨v, rfl, ho, hb⟩
  obtain ⟨B, d, rfl⟩ := Kd.R_slice ho
  obtain ⟨_, h2, h3⟩ := Kd.R_reads' ho
  exact ⟨B, d, rfl, h2, h3, hb⟩
theorem ropen_calls (A : Option Addr) (c : Nat) (l m : List Int) (b : Bool) (w : World) (hn : l.length ≤ 1000000) (hb : Bytes l) (hr : Kd.C (Kd.int .u8) w A l.length l) (hc : l.length ≤ c)
    (hm : (if 2 ≤ l.length ∧ sum l = 0 then l.take (l.length - 2) else []) = m) (hbb : decide (2 ≤ l.length ∧ sum l = 0) = b) :
    Calls Try.prog 23 #[.slice A l.length c] w fun e w' => ∃ B d, e = .returned (.tuple #[.slice B m.length d, .bool b]) ∧ m.length ≤ d ∧ Kd.C (Kd.int .u8) w' B m.length m ∧ Below w.heap.size w w' := by
  subst hm hbb
  refine (ropen_any A c l w hn hb hr hc).mono ?_
  rintro e w' ⟨v, rfl, ho, hb⟩
  obtain ⟨B, d, rfl⟩ := Kd.R_slice ho
  obtain ⟨_, h2, h3⟩ := Kd.R_reads' ho
  exact ⟨B, d, rfl, h2, h3, hb⟩
theorem str_of {w w' : World} {A : Option Addr} {c : Nat} {l : List Int} (h : Kd.C (Kd.int .u8) w A l.length l) (hb : Below w.heap.size w w') : (convert 22 9 (.slice A l.length c)).run Try.prog w' = .ok (.string (strOfNums l)) w' :=
  Kd.C_string (P := Try.prog) Try.underlying22 Try.underlying5 Try.underlying9 (Kd.C_below h hb)
end Go.Proofs.Ytafkabkoglbndaa
