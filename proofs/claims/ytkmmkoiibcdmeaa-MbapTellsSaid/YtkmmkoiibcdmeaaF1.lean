/- mbap.First, walked. -/
import Derived.Test.YtkmmkoiibcdmeaaA1
import Derived.Test.YtkmmkoiibcdmeaaQA1
import Derived.Test.YtkmmkoiibcdmeaaReg
namespace Go.Proofs.Ytkmmkoiibcdmeaa
open Go.RowKit Go.Proofs.YtkmmkoiibcdmeaaW.PrintWords Go.Proofs.YtkmmkoiibcdmeaaW.PrintLast Go.Proofs.YtkmmkoiibcdmeaaW.PrintMore
attribute [local go_sem] max2_int min2_int max_two min_two
set_option linter.unusedVariables false
set_option linter.unusedSimpArgs false
def Bytes (l : List Int) : Prop := ∀ x ∈ l, 0 ≤ x ∧ x ≤ 255
theorem rd_at (l : List Int) (i : Nat) (hi : i < l.length) : rd l i = l[i] := by unfold rd; simp [List.getD_eq_getElem?_getD, List.getElem?_eq_getElem hi]
theorem rd_byte {l : List Int} (h : Bytes l) (i : Nat) (hi : i < l.length) : 0 ≤ rd l i ∧ rd l i ≤ 255 := by rw [rd_at l i hi]; exact h _ (List.getElem_mem _)
theorem wrap16 (x : Int) (h0 : 0 ≤ x) (h1 : x < 65536) : IntKind.u16.wrap x = x := by
  have e : IntKind.u16.wrap x = x % 65536 := rfl
  rw [e]; omega
theorem or16 (a b : Int) (ha : 0 ≤ a ∧ a ≤ 255) (hb : 0 ≤ b ∧ b ≤ 255) : Go.bits .or .u16 (IntKind.u16.wrap (IntKind.u16.wrap a * 256)) (IntKind.u16.wrap b) = a * 256 + b := by
  rw [wrap16 a (by omega) (by omega), wrap16 (a * 256) (by omega) (by omega), wrap16 b (by omega) (by omega)]
  obtain ⟨x, rfl⟩ := Int.eq_ofNat_of_zero_le ha.1
  obtain ⟨y, rfl⟩ := Int.eq_ofNat_of_zero_le hb.1
  have h := u16_or_nat (x * 256) y (by omega) (by omega)
  have h2 := Nat.shiftLeft_add_eq_or_of_lt (b := y) (i := 8) (by omega) x
  rw [Nat.shiftLeft_eq] at h2
  rw [show ((x : Int) * 256) = ((x * 256 : Nat) : Int) by omega, h, ← h2]
  omega
def w16 (l : List Int) : Int := rd l 0 * 256 + rd l 1
theorem word_any (A : Option Addr) (c : Nat) (l : List Int) (w : World) (h2 : 2 ≤ l.length) (hb : Bytes l) (hr : Kd.C (Kd.int .u8) w A l.length l) (hc : l.length ≤ c) :
    Calls Try.prog 19 #[.slice A l.length c] w fun e w' => e = .returned (.int .u16 (w16 l)) ∧ Below w.heap.size w w' := by
  refine (QA.mbap_word.calls A c l (w16 l) w hr hc ?_).mono ?_
  · unfold QA.mbap_word.f w16
    have h0 : 0 ≤ rd l 0 ∧ rd l 0 ≤ 255 := rd_byte hb 0 (by omega)
    have h1 : 0 ≤ rd l 1 ∧ rd l 1 ≤ 255 := rd_byte hb 1 (by omega)
    rw [if_pos (by omega), if_pos (by omega), or16 _ _ h0 h1]
  · rintro e w' ⟨rfl, h⟩
    exact ⟨rfl, h.below⟩
/-- What the first bytes are. -/
def headOf (l : List Int) : List Int := (l.take 4).drop 2
def n16 (l : List Int) : Int := w16 (l.drop 4)
def firstOf (l : List Int) : Int × Int × List Int × Int × Int :=
  if headOf l = List.replicate (headOf l).length 0 then
    if l.length < 6 then (0, 0, [], 0, 0)
    else if n16 l < 2 then (0, 0, [], 0, 31)
    else if 254 < n16 l then (0, 0, [], 0, 31)
    else if (l.length : Int) < 6 + n16 l then (0, 0, [], 0, 0)
    else (w16 l, rd l 6, (l.take (6 + n16 l).toNat).drop 7, 6 + n16 l, 0)
  else (0, 0, [], 0, 31)
def FirstPost (w : World) (r : Int × Int × List Int × Int × Int) (e : Ending) (w' : World) : Prop :=
  ∃ v, e = .returned (.tuple #[.agg #[.int .u16 r.1, .int .u8 r.2.1, v], .int .i64 r.2.2.2.1, .int .i64 r.2.2.2.2]) ∧ Kd.R (Kd.int .u8) 5 w' w.heap.size (fun _ => True) v r.2.2.1 ∧ Below w.heap.size w w'
def ZeroTo (d : List Int) (k : Nat) : Prop := d.take k = List.replicate k 0
theorem ZeroTo.step {d : List Int} {k : Nat} (h : ZeroTo d k) (hk : k < d.length) (h0 : rd d k = 0) : ZeroTo d (k + 1) := by
  unfold ZeroTo at *
  rw [List.take_succ_eq_append_getElem hk, h, ← rd_at d k hk, h0, List.replicate_succ']
theorem ZeroTo.not {d : List Int} {k : Nat} (hk : k < d.length) (h0 : rd d k ≠ 0) : ¬ d = List.replicate d.length 0 := fun e => h0 (by
  rw [rd_at d k hk]
  have : d[k] ∈ List.replicate d.length 0 := by rw [← e]; exact List.getElem_mem _
  exact (List.mem_replicate.1 this).2)
theorem bytes_drop {l : List Int} (h : Bytes l) (k : Nat) : Bytes (l.drop k) := fun x hx => h x (List.mem_of_mem_drop hx)
theorem bytes_take {l : List Int} (h : Bytes l) (k : Nat) : Bytes (l.take k) := fun x hx => h x (List.mem_of_mem_take hx)
theorem w16_range {l : List Int} (h : Bytes l) (h2 : 2 ≤ l.length) : 0 ≤ w16 l ∧ w16 l ≤ 65535 := by
  have h0 := rd_byte h 0 (by omega)
  have h1 := rd_byte h 1 (by omega)
  have e0 : rd l ((0 : Nat) : Int) = rd l 0 := rfl
  have e1 : rd l ((1 : Nat) : Int) = rd l 1 := rfl
  unfold w16; omega
theorem put3 {w : World} {g : Nat} {t : TypeId} {x y z x' y' z' : Value} (h : w.heap[g]? = some (.cells #[x, y, z] t (0, 0))) :
    (((w.setCell ⟨g, 0, none⟩ x').setCell ⟨g, 1, none⟩ y').setCell ⟨g, 2, none⟩ z').heap[g]? = some (.cells #[x', y', z'] t (0, 0)) :=
  blk_put (blk_put (blk_put h 0 x' rfl) 1 y' rfl) 2 z' rfl
theorem blk_stays {w w' : World} {g : Nat} {o : Obj} (h : w.heap[g]? = some o) (hb : Below w.heap.size w w') : w'.heap[g]? = some o := (hb.block g (blk_lt h)).trans h
theorem info5b : (Try.prog.info? 5).map (fun i => (i.zero, i.size, i.bytes)) = some (some (.int .u8 0), 1, 1) := by kernel_rfl
set_option maxRecDepth 100000 in
set_option maxHeartbeats 2000000 in
theorem first_any (A : Option Addr) (c : Nat) (l : List Int) (w : World) (hn : l.length ≤ 1000000) (hb : Bytes l) (hr : Kd.C (Kd.int .u8) w A l.length l) (hc : l.length ≤ c) :
    Calls Try.prog 10 #[.slice A l.length c] w (FirstPost w (firstOf l)) := by
  have HR := Lib.hid hr
  have HBY := Lib.hid hb
  clear hr hb
  obtain ⟨a, ha, ha2, hal⟩ : ∃ a : Int, (if (2 : Int) < (l.length : Int) then (2 : Int) else (l.length : Int)) = a ∧ 0 ≤ a ∧ a = ((min l.length 2 : Nat) : Int) := ⟨_, rfl, by split <;> omega, by split <;> omega⟩
  obtain ⟨b, hb, hb2, hbl⟩ : ∃ a : Int, (if (4 : Int) < (l.length : Int) then (4 : Int) else (l.length : Int)) = a ∧ 0 ≤ a ∧ a = ((min l.length 4 : Nat) : Int) := ⟨_, rfl, by split <;> omega, by split <;> omega⟩
  have hab : a ≤ b := by omega
  have hbn : b ≤ (l.length : Int) := by omega
  obtain ⟨i0, hi0, _, hsz, _⟩ := info_parts info5b
  obtain ⟨A', hcut, hA, hC⟩ := print_mid_of (P := Try.prog) (Value.int .u8) 0 22 5 .i64 .i64 Try.underlying22 hi0 hsz A c l a b ha2 hab hbn hc
  have hD := Kd.C_of_reads (h1 := fun _ => rfl) (hA _ (Kd.reads_of_C HR.out))
  have hd : (l.take b.toNat).drop a.toNat = headOf l := by
    unfold headOf
    rw [hal, hbl, Int.toNat_natCast, Int.toNat_natCast]
    by_cases h4 : 4 ≤ l.length
    · rw [Nat.min_eq_right (by omega), Nat.min_eq_right (by omega)]
    · rw [Nat.min_eq_left (a := l.length) (b := 4) (by omega), List.take_of_length_le (Nat.le_refl _), List.take_of_length_le (i := 4) (by omega)]
      by_cases h3 : 2 ≤ l.length
      · rw [Nat.min_eq_right (by omega)]
      · rw [Nat.min_eq_left (by omega), List.drop_of_length_le (by omega), List.drop_of_length_le (by omega)]
  rw [hd] at hcut hD
  have hdl : (headOf l).length ≤ 2 := by unfold headOf; rw [List.length_drop, List.length_take]; omega
  obtain ⟨d, hdd⟩ : ∃ d, headOf l = d := ⟨_, rfl⟩
  rw [hdd] at hcut hD hdl
  have HD := Lib.hid hD
  have HDD := Lib.hid hdd
  obtain ⟨c', hc'⟩ : ∃ c' : Nat, c - a.toNat = c' := ⟨_, rfl⟩
  rw [hc'] at hcut
  clear hA hC hi0 hsz hal hbl hD hdd hd hc'
  go_enter Try.func10, Try.ntmps10
  go_wp2_with (first | ((with_reducible refine gate_dst (N := 2) rfl ?_); refine box_event ?hg (N := 2) ?hd (cs := #[.int .u16 0, .int .u8 0, .slice none 0 0]) (t := 26) ?hr ?_; (case hd => rfl); (case hg => rfl); (case hr => first | (go_simp; done) | (go_simp; rfl)); intro g hg w7 hbox hb7; have HG : w.heap.size ≤ g := (by rw [hg]; exact Nat.le_refl _); have HBOX := Lib.hid hbox; have HB := Lib.hid hb7; clear hg hbox hb7))
  have hc0 : w7.cell? ⟨g, 0, none⟩ = some (.int .u16 0) := (blk_cell HBOX.out 0).trans rfl
  have hc1 : w7.cell? ⟨g, 1, none⟩ = some (.int .u8 0) := (blk_cell HBOX.out 1).trans rfl
  have hc2 : w7.cell? ⟨g, 2, none⟩ = some (.slice none 0 0) := (blk_cell HBOX.out 2).trans rfl
  have hf0 := blk_frozen HBOX.out 0
  have hf1 := blk_frozen HBOX.out 1
  have hf2 := blk_frozen HBOX.out 2
  go_loopw [17] (fun v17 wr => ∃ k : Nat, k ≤ d.length ∧ v17 = .int .i64 k ∧ Hid (ZeroTo d k) ∧ w7 = wr) (fun v _ => d.length - (intOf v).toNat)
  case atStart => exact ⟨0, Nat.zero_le _, rfl, Lib.hid rfl, rfl⟩
  case round =>
    obtain ⟨k, hk, rfl, hz, rfl⟩ := hrel
    by_cases hlt : k < d.length
    · obtain ⟨ad, rfl, hx⟩ := Kd.at_int HD.out (k : Int) (by omega) (by omega)
      replace hx := (HB.out.cell (World.block_lt_of_cell? w _ hx)).trans hx
      simp only [Int.toNat_natCast] at hx
      by_cases h0 : rd d k = 0
      · have HZ := Lib.hid (hz.out.step hlt h0)
        rw [h0] at hx
        clear h0
        go_wp2_with fail
        go_roundw
        case rel => exact ⟨k + 1, by omega, by go_num, HZ, trivial⟩
        case measure => simp [intOf]; omega
      · have HF : Hid (firstOf l = (0, 0, [], 0, 31)) := Lib.hid (by unfold firstOf; rw [HDD.out, if_neg (ZeroTo.not hlt h0)])
        have hne : (rd d k != 0) = true := bne_iff_ne.mpr h0
        generalize rd d k = x at hx hne
        clear h0
        go_wp2_with fail
        refine bodyPost_ret (results_ctt rfl _ _ g 26 #[.int .u16 0, .int .u8 0, .slice none 0 0] (0, 0) _ rfl (put3 HBOX.out) Try.underlying26 rfl (by kernel_rfl)) rfl ?_
        rw [HF.out]
        exact ⟨_, rfl, Kd.R_nil _ _ _ _ _, ((HB.out.setCell HG _).setCell HG _).setCell HG _⟩
    · obtain rfl : k = d.length := by omega
      have HH : Hid (headOf l = List.replicate (headOf l).length 0) := Lib.hid (by rw [HDD.out]; have := hz.out; unfold ZeroTo at this; rw [List.take_length] at this; exact this)
      clear hz hlt hcut HD hdl hk
      by_cases h6 : l.length < 6
      · have HF : Hid (firstOf l = (0, 0, [], 0, 0)) := Lib.hid (by unfold firstOf; rw [if_pos HH.out, if_pos h6])
        have h6i : (l.length : Int) < 6 := by omega
        clear HH
        go_wp2_with fail
        refine bodyPost_ret (results_ctt rfl _ _ g 26 #[.int .u16 0, .int .u8 0, .slice none 0 0] (0, 0) _ rfl (put3 HBOX.out) Try.underlying26 rfl (by kernel_rfl)) rfl ?_
        rw [HF.out]
        exact ⟨_, rfl, Kd.R_nil _ _ _ _ _, ((HB.out.setCell HG _).setCell HG _).setCell HG _⟩
      · have h6i : ¬ ((l.length : Int) < 6) := by omega
        have h4i : (4 : Int) ≤ (l.length : Int) := by omega
        obtain ⟨i0, hi0, _, hsz, _⟩ := info_parts info5b
        obtain ⟨A4, hcut4, hA4, hC4⟩ := print_drop_of (P := Try.prog) (Value.int .u8) 0 22 5 .i64 Try.underlying22 hi0 hsz A c l 4 (by omega) h4i hc
        have hR4 := Kd.C_of_reads (h1 := fun _ => rfl) (hA4 _ (Kd.reads_of_C HR.out))
        have hb4 : Bytes (l.drop (4 : Int).toNat) := bytes_drop HBY.out _
        have hl4 : 2 ≤ (l.drop (4 : Int).toNat).length := by rw [List.length_drop]; show 2 ≤ l.length - 4; omega
        obtain ⟨c4, hc4⟩ : ∃ c4 : Nat, c - (4 : Int).toNat = c4 := ⟨_, rfl⟩
        obtain ⟨q, hq⟩ : ∃ q, l.drop (4 : Int).toNat = q := ⟨_, rfl⟩
        obtain ⟨n, hnn⟩ : ∃ n, n16 l = n := ⟨_, rfl⟩
        have hnq : w16 q = n := by rw [← hq]; exact hnn
        rw [hq, hc4] at hcut4 hC4
        rw [hq] at hR4 hb4 hl4
        have hnr := w16_range hb4 hl4
        rw [hnq] at hnr
        have hn0 := hnr.1
        have hn1 := hnr.2
        have HW4 : Hid (∀ w', Below w.heap.size w w' → Calls Try.prog 19 #[.slice A4 q.length c4] w' fun e w'' => e = .returned (.int .u16 n) ∧ Below w'.heap.size w' w'') := Lib.hid (fun w' h => by rw [← hnq]; exact word_any A4 c4 q w' hl4 hb4 (Kd.C_below hR4 h) hC4)
        have HN := Lib.hid hnn
        clear hA4 hR4 hb4 hl4 hC4 hq hc4 hnn hnq hnr hi0 hsz
        go_wp2_with fail
        refine (HW4.out _ HB.out).mono ?_
        rintro e wb ⟨rfl, hbb⟩
        have HB2 := Lib.hid (below_then HB.out HB.out.size hbb)
        have HBOX2 := Lib.hid (blk_stays HBOX.out hbb)
        clear hbb HB HBOX hc0 hc1 hc2 hf0 hf1 hf2 HW4 hcut4
        have HB := HB2
        have HBOX := HBOX2
        clear HB2 HBOX2
        have hc0 : wb.cell? ⟨g, 0, none⟩ = some (.int .u16 0) := (blk_cell HBOX.out 0).trans rfl
        have hc1 : wb.cell? ⟨g, 1, none⟩ = some (.int .u8 0) := (blk_cell HBOX.out 1).trans rfl
        have hc2 : wb.cell? ⟨g, 2, none⟩ = some (.slice none 0 0) := (blk_cell HBOX.out 2).trans rfl
        have hf0 := blk_frozen HBOX.out 0
        have hf1 := blk_frozen HBOX.out 1
        have hf2 := blk_frozen HBOX.out 2
        by_cases hn2 : n < 2
        · have HF : Hid (firstOf l = (0, 0, [], 0, 31)) := Lib.hid (by unfold firstOf; rw [if_pos HH.out, if_neg h6, HN.out, if_pos hn2])
          clear HH
          go_wp2_with fail
          refine bodyPost_ret (results_ctt rfl _ _ g 26 #[.int .u16 0, .int .u8 0, .slice none 0 0] (0, 0) _ rfl (put3 HBOX.out) Try.underlying26 rfl (by kernel_rfl)) rfl ?_
          rw [HF.out]
          exact ⟨_, rfl, Kd.R_nil _ _ _ _ _, ((HB.out.setCell HG _).setCell HG _).setCell HG _⟩
        · by_cases hn254 : 254 < n
          · have HF : Hid (firstOf l = (0, 0, [], 0, 31)) := Lib.hid (by unfold firstOf; rw [if_pos HH.out, if_neg h6, HN.out, if_neg hn2, if_pos hn254])
            clear HH
            go_wp2_with fail
            refine bodyPost_ret (results_ctt rfl _ _ g 26 #[.int .u16 0, .int .u8 0, .slice none 0 0] (0, 0) _ rfl (put3 HBOX.out) Try.underlying26 rfl (by kernel_rfl)) rfl ?_
            rw [HF.out]
            exact ⟨_, rfl, Kd.R_nil _ _ _ _ _, ((HB.out.setCell HG _).setCell HG _).setCell HG _⟩
          · by_cases hlt : (l.length : Int) < 6 + n
            · have HF : Hid (firstOf l = (0, 0, [], 0, 0)) := Lib.hid (by unfold firstOf; rw [if_pos HH.out, if_neg h6, HN.out, if_neg hn2, if_neg hn254, if_pos hlt])
              clear HH
              go_wp2_with fail
              refine bodyPost_ret (results_ctt rfl _ _ g 26 #[.int .u16 0, .int .u8 0, .slice none 0 0] (0, 0) _ rfl (put3 HBOX.out) Try.underlying26 rfl (by kernel_rfl)) rfl ?_
              rw [HF.out]
              exact ⟨_, rfl, Kd.R_nil _ _ _ _ _, ((HB.out.setCell HG _).setCell HG _).setCell HG _⟩
            · have HF : Hid (firstOf l = (w16 l, rd l 6, (l.take (6 + n).toNat).drop 7, 6 + n, 0)) := Lib.hid (by unfold firstOf; rw [if_pos HH.out, if_neg h6, HN.out, if_neg hn2, if_neg hn254, if_neg hlt])
              clear HH HDD HN
              obtain ⟨i1, hi1, _, hsz1, _⟩ := info_parts info5b
              have h7 : (7 : Int) ≤ 6 + n := by omega
              have h6n : 6 + n ≤ (l.length : Int) := by omega
              obtain ⟨A7, hcut7, hA7, hC7⟩ := print_mid_of (P := Try.prog) (Value.int .u8) 0 22 5 .i64 .i64 Try.underlying22 hi1 hsz1 A c l 7 (6 + n) (by omega) h7 h6n hc
              have hR7 := Kd.C_of_reads (h1 := fun _ => rfl) (hA7 _ (Kd.reads_of_C HR.out))
              obtain ⟨c7, hc7⟩ : ∃ c7 : Nat, c - (7 : Int).toNat = c7 := ⟨_, rfl⟩
              obtain ⟨p, hp⟩ : ∃ p, (l.take (6 + n).toNat).drop (7 : Int).toNat = p := ⟨_, rfl⟩
              have hpl : p.length ≤ 1000000 := by rw [← hp, List.length_drop, List.length_take]; omega
              have HP : Hid ((l.take (6 + n).toNat).drop 7 = p) := Lib.hid hp
              rw [hp, hc7] at hcut7
              rw [hp] at hR7
              have HCL : Hid (∀ w', Below w.heap.size w w' → Calls Try.prog 20 #[.slice A7 p.length c7] w' fun e w'' => ∃ v, e = .returned v ∧ Kd.R (Kd.int .u8) 5 w'' w'.heap.size (fun _ => True) v p ∧ Below w'.heap.size w' w'') := Lib.hid (fun w' h => clone_any A7 c7 p w' (by omega) (Kd.C_below hR7 h))
              obtain ⟨ad, rfl, hx6⟩ := Kd.at_int HR.out 6 (by omega) (by omega)
              have HX6 : Hid (∀ w', Below w.heap.size w w' → w'.cell? ⟨ad.block, ad.off + 6, none⟩ = some (.int .u8 (rd l 6))) := Lib.hid (fun w' h => by
                have h1 := (h.cell (World.block_lt_of_cell? w _ hx6)).trans hx6
                rw [show ad.add (6 : Int).toNat = ⟨ad.block, ad.off + 6, none⟩ from by unfold Addr.add; rfl] at h1
                exact h1)
              have HW : Hid (∀ w', Below w.heap.size w w' → Calls Try.prog 19 #[.slice (some ad) l.length c] w' fun e w'' => e = .returned (.int .u16 (w16 l)) ∧ Below w'.heap.size w' w'') := Lib.hid (fun w' h => word_any (some ad) c l w' (by omega) HBY.out (Kd.C_below HR.out h) hc)
              have hl6 : (6 : Int) < (l.length : Int) := by omega
              have hl6' : 6 < l.length := by omega
              have hw6 : IntKind.i64.wrap (6 + n) = 6 + n := (i64_w _).trans (by unfold wrap64; omega)
              generalize rd l 6 = u at HX6 HF
              clear hA7 hC7 hR7 hc7 hp hi1 hsz1 hx6
              go_wp2_with fail
              refine start_ (n := 16) (S := fun w' => w'.cell? ⟨ad.block, ad.off + 6, none⟩ = some (.int .u8 u)) (ds := []) #[false, false, false, false, false, false, false, false, false, false, false, false, false, false, false, false] (by kernel_rfl) rfl rfl (HX6.out _ (below_drew HB.out)) (fun hHeld => ?_)
              refine pure_ (i := 0) (N := some 46) (v := ?_) (a' := ?_) #[true, false, false, false, false, false, false, false, false, false, false, false, false, false, false, false] rfl rfl (by kernel_rfl) (fun _ _ _ h => h) (Or.inl ⟨by rfl, ?_⟩) ?_ ?_
              rotate_left
              · intro w'
                go_simp
                with_reducible rfl
              rotate_left
              · simp only [Act.put, List.setIfInBounds_toArray, List.set_cons_zero, List.set_cons_succ, i64_w, i32_w]
                rfl
              refine pure_ (i := 2) (N := some 48) (v := ?_) (a' := ?_) #[true, false, true, false, false, false, false, false, false, false, false, false, false, false, false, false] rfl rfl (by kernel_rfl) (fun _ _ _ h => h) (Or.inl ⟨by rfl, ?_⟩) ?_ ?_
              rotate_left
              · intro w'
                go_simp
                with_reducible rfl
              rotate_left
              · simp only [Act.put, List.setIfInBounds_toArray, List.set_cons_zero, List.set_cons_succ, i64_w, i32_w]
                rfl
              refine pure_ (i := 3) (N := some 49) (v := ?_) (a' := ?_) #[true, false, true, true, false, false, false, false, false, false, false, false, false, false, false, false] rfl rfl (by kernel_rfl) (fun _ _ _ h => h) (Or.inl ⟨by rfl, ?_⟩) ?_ ?_
              rotate_left
              · intro w'
                go_simp
                with_reducible rfl
              rotate_left
              · simp only [Act.put, List.setIfInBounds_toArray, List.set_cons_zero, List.set_cons_succ, i64_w, i32_w]
                rfl
              refine pure_ (i := 5) (N := some 51) (v := ?_) (a' := ?_) #[true, false, true, true, false, true, false, false, false, false, false, false, false, false, false, false] rfl rfl (by kernel_rfl) (fun _ _ _ h => h) (Or.inl ⟨by rfl, ?_⟩) ?_ ?_
              rotate_left
              · intro w'
                go_simp
                with_reducible rfl
              rotate_left
              · simp only [Act.put, List.setIfInBounds_toArray, List.set_cons_zero, List.set_cons_succ, i64_w, i32_w]
                rfl
              refine pure_ (i := 6) (N := some 52) (v := ?_) (a' := ?_) #[true, false, true, true, false, true, true, false, false, false, false, false, false, false, false, false] rfl rfl (by kernel_rfl) (fun _ _ _ h => h) (Or.inl ⟨by rfl, ?_⟩) ?_ ?_
              rotate_left
              · intro w'
                go_simp
                with_reducible rfl
              rotate_left
              · simp only [Act.put, List.setIfInBounds_toArray, List.set_cons_zero, List.set_cons_succ, i64_w, i32_w]
                rfl
              refine pure_ (i := 7) (N := some 53) (v := ?_) (a' := ?_) #[true, false, true, true, false, true, true, true, false, false, false, false, false, false, false, false] rfl rfl (by kernel_rfl) (fun _ _ _ h => h) (Or.inl ⟨by rfl, ?_⟩) ?_ ?_
              rotate_left
              · intro w'
                go_simp
                with_reducible rfl
              rotate_left
              · simp only [Act.put, List.setIfInBounds_toArray, List.set_cons_zero, List.set_cons_succ, i64_w, i32_w]
                rfl
              refine pure_ (i := 8) (N := some 54) (v := ?_) (a' := ?_) #[true, false, true, true, false, true, true, true, true, false, false, false, false, false, false, false] rfl rfl (by kernel_rfl) (fun _ _ _ h => h) (Or.inl ⟨by rfl, ?_⟩) ?_ ?_
              rotate_left
              · intro w'
                go_simp
                with_reducible rfl
              rotate_left
              · simp only [Act.put, List.setIfInBounds_toArray, List.set_cons_zero, List.set_cons_succ, i64_w, i32_w]
                rfl
              refine pure_ (i := 11) (N := some 57) (v := ?_) (a' := ?_) #[true, false, true, true, false, true, true, true, true, false, false, true, false, false, false, false] rfl rfl (by kernel_rfl) (fun _ _ _ h => h) (Or.inl ⟨by rfl, ?_⟩) ?_ ?_
              rotate_left
              · intro w'
                go_simp
                with_reducible rfl
              rotate_left
              · simp only [Act.put, List.setIfInBounds_toArray, List.set_cons_zero, List.set_cons_succ, i64_w, i32_w]
                rfl
              refine pure_ (i := 12) (N := some 58) (v := ?_) (a' := ?_) #[true, false, true, true, false, true, true, true, true, false, false, true, true, false, false, false] rfl rfl (by kernel_rfl) (fun _ _ _ h => h) (Or.inl ⟨by rfl, ?_⟩) ?_ ?_
              rotate_left
              · intro w'
                go_simp
                with_reducible rfl
              rotate_left
              · simp only [Act.put, List.setIfInBounds_toArray, List.set_cons_zero, List.set_cons_succ, i64_w, i32_w]
                rfl
              refine take_ (i := 4) (N := some 50) (v := ?_) (a' := ?_) #[true, false, true, true, true, true, true, true, true, false, false, true, true, false, false, false] rfl rfl (by kernel_rfl) (fun _ _ _ h => h) (Or.inl ⟨by rfl, ?_⟩) hHeld ?_ ?_
              rotate_left
              · rintro w' s0
                go_simp
                with_reducible rfl
              rotate_left
              · simp only [Act.put, List.setIfInBounds_toArray, List.set_cons_zero, List.set_cons_succ, i64_w, i32_w]
                rfl
              refine one_ (i := 1) (N := some 47) #[true, true, true, true, true, true, true, true, true, false, false, true, true, false, false, false] rfl rfl (by kernel_rfl) (by decide) (fun K hK => ?_)
              refine goes_ Try.func19 (by kernel_rfl) rfl #[.slice (some ad) l.length c] (by rfl) rfl rfl (by simp only [List.map_toArray, List.map_cons, List.map_nil]; rfl) ?_
              with_reducible refine (HW.out _ (below_drew HB.out)).mono ?_
              rintro e w8 ⟨rfl, hb8⟩
              refine ⟨_, rfl, ?_⟩
              have hB8 : Below w.heap.size w w8 := below_then (below_drew HB.out) HB.out.size hb8
              have hX8 : w8.heap[g]? = _ := blk_stays (w := wb.drew) HBOX.out hb8
              refine hK.out _ _ (HX6.out _ hB8) (fun hHeld => ?_)
              clear hK K
              refine norm_ (a' := ?_) ?_ ?_
              rotate_left
              · show Act.put _ (some 47) _ = _
                simp only [Act.put, List.setIfInBounds_toArray, List.set_cons_zero, List.set_cons_succ, i64_w, i32_w]
                rfl
              refine one_ (i := 9) (N := some 55) #[true, true, true, true, true, true, true, true, true, true, false, true, true, false, false, false] rfl rfl (by kernel_rfl) (by decide) (fun K hK => ?_)
              refine goes_ Try.func20 (by kernel_rfl) rfl #[.slice A7 p.length c7] (by rfl) rfl rfl (by simp only [List.map_toArray, List.map_cons, List.map_nil]; rfl) ?_
              with_reducible refine (HCL.out _ hB8).mono ?_
              rintro e w9 ⟨v, rfl, ho, hb9⟩
              refine ⟨_, rfl, ?_⟩
              obtain ⟨B9, d9, rfl⟩ := Kd.R_slice ho
              have hB9 : Below w.heap.size w w9 := below_then hB8 hB8.size hb9
              have hX9 : w9.heap[g]? = _ := blk_stays hX8 hb9
              have hO9 := Lib.hid (Kd.R_lower ho hB8.size)
              clear ho
              refine hK.out _ _ (HX6.out _ hB9) (fun hHeld => ?_)
              clear hK K
              refine norm_ (a' := ?_) ?_ ?_
              rotate_left
              · show Act.put _ (some 55) _ = _
                simp only [Act.put, List.setIfInBounds_toArray, List.set_cons_zero, List.set_cons_succ, i64_w, i32_w]
                rfl
              refine pure_ (i := 10) (N := some 56) (v := ?_) (a' := ?_) #[true, true, true, true, true, true, true, true, true, true, true, true, true, false, false, false] rfl rfl (by kernel_rfl) (fun _ _ _ h => h) (Or.inl ⟨by rfl, ?_⟩) ?_ ?_
              rotate_left
              · intro w'
                go_simp
                with_reducible rfl
              rotate_left
              · simp only [Act.put, List.setIfInBounds_toArray, List.set_cons_zero, List.set_cons_succ, i64_w, i32_w]
                rfl
              refine one_ (i := 13) (N := none) #[true, true, true, true, true, true, true, true, true, true, true, true, true, true, false, false] rfl rfl (by kernel_rfl) (by decide) (fun K hK => ?_)
              have hc0 : w9.cell? ⟨g, 0, none⟩ = some (.int .u16 0) := (blk_cell hX9 0).trans rfl
              have hc1 : w9.cell? ⟨g, 1, none⟩ = some (.int .u8 0) := (blk_cell hX9 1).trans rfl
              have hc2 : w9.cell? ⟨g, 2, none⟩ = some (.slice none 0 0) := (blk_cell hX9 2).trans rfl
              have hf0 := blk_frozen hX9 0
              have hf1 := blk_frozen hX9 1
              have hf2 := blk_frozen hX9 2
              refine skip_ (w1 := ?_) (by rfl) rfl ?_ ?_
              rotate_left
              · go_simp
                rfl
              refine hK.out _ _ (HX6.out _ (((hB9.setCell HG _).setCell HG _).setCell HG _)) (fun hHeld => ?_)
              clear hK K
              refine pure_ (i := 14) (N := some 3) (v := ?_) (a' := ?_) #[true, true, true, true, true, true, true, true, true, true, true, true, true, true, true, false] rfl rfl (by kernel_rfl) (fun _ _ _ h => h) (Or.inl ⟨by rfl, ?_⟩) ?_ ?_
              rotate_left
              · intro w'
                go_simp
                with_reducible rfl
              rotate_left
              · simp only [Act.put, List.setIfInBounds_toArray, List.set_cons_zero, List.set_cons_succ, i64_w, i32_w]
                rfl
              refine pure_ (i := 15) (N := some 4) (v := ?_) (a' := ?_) #[true, true, true, true, true, true, true, true, true, true, true, true, true, true, true, true] rfl rfl (by kernel_rfl) (fun _ _ _ h => h) (Or.inl ⟨by rfl, ?_⟩) ?_ ?_
              rotate_left
              · intro w'
                go_simp
                with_reducible rfl
              rotate_left
              · simp only [Act.put, List.setIfInBounds_toArray, List.set_cons_zero, List.set_cons_succ, i64_w, i32_w]
                rfl
              refine done_ (by kernel_rfl) ?_
              go_wp2_with fail
              refine bodyPost_ret (results_ctt rfl _ _ g 26 #[.int .u16 (w16 l), .int .u8 u, .slice B9 p.length d9] (0, 0) _ rfl (put3 hX9) Try.underlying26 rfl (by kernel_rfl)) rfl ?_
              rw [HF.out]
              refine ⟨_, rfl, ?_, ((hB9.setCell HG _).setCell HG _).setCell HG _⟩
              show Kd.R (Kd.int .u8) 5 _ _ _ _ ((l.take (6 + n).toNat).drop 7)
              rw [HP.out]
              have ht : ∀ q, q ∈ 5 :: (Kd.int .u8).E → q ≠ 26 := fun q hq => by
                rcases List.mem_cons.1 hq with rfl | h
                · decide
                · cases h
              exact Kd.R_set (Kd.R_set (Kd.R_set hO9.out hX9 ht 0 _) (blk_put hX9 0 _ rfl) ht 1 _) (blk_put (blk_put hX9 0 _ rfl) 1 _ rfl) ht 2 _
end Go.Proofs.Ytkmmkoiibcdmeaa
