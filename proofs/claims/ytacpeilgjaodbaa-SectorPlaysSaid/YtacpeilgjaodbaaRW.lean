/- The reference's Write. -/
import Derived.Test.YtacpeilgjaodbaaRO
namespace Go.Proofs.Ytacpeilgjaodbaa
open Go.RowKit Go.Proofs.YtacpeilgjaodbaaW.PrintWords Go.Proofs.YtacpeilgjaodbaaW.PrintLast Go.Proofs.YtacpeilgjaodbaaW.PrintMore
attribute [local go_sem] max2_int min2_int max_two min_two
set_option linter.unusedVariables false
set_option linter.unusedSimpArgs false
theorem zeros_n (n : Int) (w : World) (hn : 0 ≤ n ∧ n ≤ 64) : Calls Try.prog 26 #[.int .i64 n] w fun e w' => e = .returned (.string (strOfNums (List.replicate n.toNat 0))) ∧ Below w.heap.size w w' :=
  QA.watchkeeperref10_zeros.calls n _ w (by unfold QA.watchkeeperref10_zeros.f; rw [if_pos hn.1, if_pos (by omega)])
theorem str_append (a b : List Int) : strOfNums (a ++ b) = ⟨((strOfNums a).data.toList ++ (strOfNums b).data.toList).toArray⟩ := by unfold strOfNums; simp
theorem pad_append (b : List Int) : padOf b = b ++ List.replicate (64 - (b.length : Int)).toNat 0 := by
  rw [show (64 - (b.length : Int)).toNat = 64 - b.length by omega]
  unfold padOf splice
  rw [Nat.zero_add, List.take_zero, List.nil_append, List.drop_replicate]
theorem zeros_w (b : Nat) (w : World) (hb : b ≤ 64) : Calls Try.prog 26 #[.int .i64 (wrap64 (64 - (b : Int)))] w fun e w' => e = .returned (.string (strOfNums (List.replicate (64 - b) 0))) ∧ Below w.heap.size w w' := by
  have hw : wrap64 (64 - (b : Int)) = 64 - (b : Int) := by unfold wrap64; omega
  have := zeros_n (64 - (b : Int)) w (by clear hw; omega)
  rw [show (64 - (b : Int)).toNat = 64 - b by clear hw; omega] at this
  rw [hw]; exact this
theorem str_add (a b : List Int) : strOfNums a ++ strOfNums b = strOfNums (a ++ b) := by
  apply ByteArray.ext
  rw [ByteArray.data_append]
  unfold strOfNums
  simp
theorem str_cut (a b : List Int) (k : Nat) : (strOfNums a).extract 0 k ++ (strOfNums b).extract k (strOfNums b).size = strOfNums (a.take k ++ b.drop k) := by
  apply ByteArray.ext
  rw [ByteArray.data_append, ByteArray.data_extract, ByteArray.data_extract, strOfNums_size]
  unfold strOfNums
  apply Array.toList_inj.1
  simp [List.extract_eq_take_drop]
  exact List.take_of_length_le (by simp)
/-- A write that is not refused, and is not cut. -/
def rput (R : Rk) (i : Nat) (b : List Int) : Int × Rk :=
  if R.after = 0 then (101, { R with rows := R.rows.set i ((padOf b).take R.bytes.toNat ++ (R.rows.getD i []).drop R.bytes.toNat), down := true, after := -1 })
  else (0, { R with rows := R.rows.set i (padOf b), wrote := wrap64 (R.wrote + 1), after := if 0 < R.after then R.after - 1 else R.after })
def rwriteOf (R : Rk) (i : Int) (b : List Int) : Int × Rk := if R.down then (101, R) else if i < 0 then (1, R) else if (R.rows.length : Int) ≤ i then (1, R) else if 64 < b.length then (1, R) else rput R i.toNat b
def RWPost (w : World) (B g : Nat) (x : Int × Rk) (e : Ending) (w' : World) : Prop := e = .returned (.int .i64 x.1) ∧ IsRk w' B g x.2 ∧ Below B w w' ∧ KeepT RefT w w'
set_option maxRecDepth 100000 in
set_option maxHeartbeats 4000000 in
theorem rrefuse_any (B g : Nat) (R : Rk) (i : Int) (A : Option Addr) (c : Nat) (b : List Int) (w : World) (h : IsRk w B g R) (hn : R.down = true ∨ i < 0 ∨ (R.rows.length : Int) ≤ i ∨ 64 < b.length) (x : Int × Rk) (hx : rwriteOf R i b = x) :
    Calls Try.prog 19 #[.pointer (some ⟨g, 0, none⟩), .int .i64 i, .slice A b.length c] w (RWPost w B g x) := by
  obtain ⟨v, torn, was, meant, hg, hr⟩ := h.blk
  obtain ⟨A0, c0, rfl⟩ := Kd.R_slice hr
  rw [List.length_map] at hg hr
  have hc0 : w.cell? ⟨g, 0, none⟩ = some (.slice A0 R.rows.length c0) := (blk_cell hg 0).trans rfl
  have hc1 : w.cell? ⟨g, 1, none⟩ = some (.bool R.down) := (blk_cell hg 1).trans rfl
  have HD := Lib.hid h
  unfold rwriteOf at hx
  by_cases hd : R.down = true
  · rw [if_pos hd] at hx
    subst hx
    rw [hd] at hc1
    clear hg h hd hn hr
    go_enter Try.func19, Try.ntmps19
    go_wp2_with fail
    go_ret
    exact ⟨rfl, HD.out, Below.refl _ _, KeepT.refl _ _⟩
  rw [if_neg hd] at hx
  have hdf : R.down = false := by simpa using hd
  rw [hdf] at hc1
  by_cases h0 : i < 0
  · rw [if_pos h0] at hx
    subst hx
    clear hg h hd hdf hn hr
    go_enter Try.func19, Try.ntmps19
    go_wp2_with fail
    go_ret
    exact ⟨rfl, HD.out, Below.refl _ _, KeepT.refl _ _⟩
  rw [if_neg h0] at hx
  by_cases h1 : (R.rows.length : Int) ≤ i
  · rw [if_pos h1] at hx
    subst hx
    clear hg h hd hdf hn hr
    go_enter Try.func19, Try.ntmps19
    go_wp2_with fail
    go_ret
    exact ⟨rfl, HD.out, Below.refl _ _, KeepT.refl _ _⟩
  rw [if_neg h1] at hx
  have h6 : 64 < b.length := by rcases hn with h | h | h | h <;> first | exact absurd h hd | exact absurd h h0 | exact absurd h h1 | exact h
  rw [if_pos h6] at hx
  subst hx
  have h6i : (64 : Int) < b.length := by omega
  clear hg h hd hdf hn h6 hr
  go_enter Try.func19, Try.ntmps19
  go_wp2_with fail
  go_ret
  exact ⟨rfl, HD.out, Below.refl _ _, KeepT.refl _ _⟩
set_option maxRecDepth 100000 in
set_option maxHeartbeats 4000000 in
theorem rput_any (B g : Nat) (R : Rk) (i : Nat) (A : Option Addr) (c : Nat) (b : List Int) (w : World) (h : IsRk w B g R) (hd : R.down = false) (hi : i < R.rows.length) (hb : b.length ≤ 64) (hbb : Bytes b) (hr2 : Kd.C (Kd.int .u8) w A b.length b)
    (hby : ∀ l ∈ R.rows, Bytes l ∧ l.length = 64) (hk : 0 ≤ R.bytes ∧ R.bytes ≤ 64) (ha : -1 ≤ R.after ∧ R.after ≤ 9223372036854775807) :
    Calls Try.prog 19 #[.pointer (some ⟨g, 0, none⟩), .int .i64 (i : Int), .slice A b.length c] w (RWPost w B g (rput R i b)) := by
  obtain ⟨v, torn, was, meant, hg, hr⟩ := h.blk
  obtain ⟨r, c0, cur, rfl, hbr, hrow, hat⟩ := row_at hr (by rw [List.length_map]; exact h.pos)
  rw [List.length_map] at hg
  have hc0 : w.cell? ⟨g, 0, none⟩ = some (.slice (some ⟨r, 0, none⟩) R.rows.length c0) := (blk_cell hg 0).trans rfl
  have hc1 : w.cell? ⟨g, 1, none⟩ = some (.bool R.down) := (blk_cell hg 1).trans rfl
  rw [hd] at hc1
  have HBN : Hid (b.length ≤ 64) := Lib.hid hb
  have HCV : Hid (∀ w', Below w.heap.size w w' → (convert 29 9 (.slice A b.length c)).run Try.prog w' = .ok (.string (strOfNums b)) w') := Lib.hid (fun w' h => str_of hr2 h)
  have hi1 : (0 : Int) ≤ (i : Int) := by omega
  have hi2 : (i : Int) < (R.rows.length : Int) := by omega
  have hb1 : (b.length : Int) ≤ 64 := by omega
  have hcc : ¬ 9223372036854775807 < (strOfNums b).size + (strOfNums (List.replicate (64 - b.length) 0)).size := by rw [strOfNums_size, strOfNums_size, List.length_replicate]; omega
  have hse : strOfNums b ++ strOfNums (List.replicate (64 - b.length) 0) = strOfNums (padOf b) := by rw [str_add, pad_append, show (64 - (b.length : Int)).toNat = 64 - b.length by omega]
  obtain ⟨s, hs⟩ : ∃ s, strOfNums (padOf b) = s := ⟨_, rfl⟩
  rw [hs] at hse
  have HS := Lib.hid hs
  clear hs
  have HG := Lib.hid hg
  have HR := Lib.hid hr
  have HROW := Lib.hid hrow
  have HAT := Lib.hid hat
  have HH := Lib.hid h
  clear hg hr hrow hat h hb hd hr2
  go_enter Try.func19, Try.ntmps19
  go_wp2_with fail
  refine start_ (n := 8) (S := fun w' => (convert 29 9 (.slice A b.length c)).run Try.prog w' = .ok (.string (strOfNums b)) w') (ds := []) #[false, false, false, false, false, false, false, false] (by kernel_rfl) rfl rfl ((HCV.out _ (below_drew (Below.refl _ _)))) (fun hHeld => ?_)
  refine pure_ (i := 0) (N := some 28) (v := ?_) (a' := ?_) #[true, false, false, false, false, false, false, false] rfl rfl (by kernel_rfl) (fun _ _ _ h => h) (Or.inl ⟨by rfl, ?_⟩) ?_ ?_
  rotate_left
  · intro w'
    go_simp
    with_reducible rfl
  rotate_left
  · simp only [Act.put, List.setIfInBounds_toArray, List.set_cons_zero, List.set_cons_succ, i64_w, i32_w]
    rfl
  refine pure_ (i := 2) (N := some 30) (v := ?_) (a' := ?_) #[true, false, true, false, false, false, false, false] rfl rfl (by kernel_rfl) (fun _ _ _ h => h) (Or.inl ⟨by rfl, ?_⟩) ?_ ?_
  rotate_left
  · intro w'
    go_simp
    with_reducible rfl
  rotate_left
  · simp only [Act.put, List.setIfInBounds_toArray, List.set_cons_zero, List.set_cons_succ, i64_w, i32_w]
    rfl
  refine pure_ (i := 3) (N := some 31) (v := ?_) (a' := ?_) #[true, false, true, true, false, false, false, false] rfl rfl (by kernel_rfl) (fun _ _ _ h => h) (Or.inl ⟨by rfl, ?_⟩) ?_ ?_
  rotate_left
  · intro w'
    go_simp
    with_reducible rfl
  rotate_left
  · simp only [Act.put, List.setIfInBounds_toArray, List.set_cons_zero, List.set_cons_succ, i64_w, i32_w]
    rfl
  refine pure_ (i := 4) (N := some 32) (v := ?_) (a' := ?_) #[true, false, true, true, true, false, false, false] rfl rfl (by kernel_rfl) (fun _ _ _ h => h) (Or.inl ⟨by rfl, ?_⟩) ?_ ?_
  rotate_left
  · intro w'
    go_simp
    with_reducible rfl
  rotate_left
  · simp only [Act.put, List.setIfInBounds_toArray, List.set_cons_zero, List.set_cons_succ, i64_w, i32_w]
    rfl
  refine take_ (i := 1) (N := some 29) (v := ?_) (a' := ?_) #[true, true, true, true, true, false, false, false] rfl rfl (by kernel_rfl) (fun _ _ _ h => h) (Or.inl ⟨by rfl, ?_⟩) hHeld ?_ ?_
  rotate_left
  · rintro w' s0
    go_simp
    with_reducible rfl
  rotate_left
  · simp only [Act.put, List.setIfInBounds_toArray, List.set_cons_zero, List.set_cons_succ, i64_w, i32_w]
    rfl
  refine one_ (i := 5) (N := some 33) #[true, true, true, true, true, true, false, false] rfl rfl (by kernel_rfl) (by decide) (fun K hK => ?_)
  refine goes_ Try.func26 (by kernel_rfl) rfl #[.int .i64 (wrap64 (64 - (b.length : Int)))] (by rfl) rfl rfl (by simp only [List.map_toArray, List.map_cons, List.map_nil]; rfl) ?_
  with_reducible refine (zeros_w b.length _ HBN.out).mono ?_
  rintro e w5 ⟨rfl, hb5⟩
  refine ⟨_, rfl, ?_⟩
  have hb5' := below_then (below_drew (Below.refl w.heap.size w)) (Nat.le_refl _) hb5
  refine hK.out _ _ ((HCV.out _ hb5')) (fun hHeld => ?_)
  clear hK K
  refine norm_ (a' := ?_) ?_ ?_
  rotate_left
  · show Act.put _ (some 33) _ = _
    simp only [Act.put, List.setIfInBounds_toArray, List.set_cons_zero, List.set_cons_succ, i64_w, i32_w]
    rfl
  refine pure_ (i := 6) (N := some 34) (v := ?_) (a' := ?_) #[true, true, true, true, true, true, true, false] rfl rfl (by kernel_rfl) (fun _ _ _ h => h) (Or.inl ⟨by rfl, ?_⟩) ?_ ?_
  rotate_left
  · intro w'
    go_simp
    with_reducible rfl
  rotate_left
  · simp only [Act.put, List.setIfInBounds_toArray, List.set_cons_zero, List.set_cons_succ, i64_w, i32_w]
    rfl
  refine pure_ (i := 7) (N := some 7) (v := ?_) (a' := ?_) #[true, true, true, true, true, true, true, true] rfl rfl (by kernel_rfl) (fun _ _ _ h => h) (Or.inl ⟨by rfl, ?_⟩) ?_ ?_
  rotate_left
  · intro w'
    go_simp
    with_reducible rfl
  rotate_left
  · simp only [Act.put, List.setIfInBounds_toArray, List.set_cons_zero, List.set_cons_succ, i64_w, i32_w]
    rfl
  refine done_ (by kernel_rfl) ?_
  have hne : g ≠ r := fun e => by
    have h1 := HG.out
    have h2 := HROW.out
    rw [e, h2] at h1
    injection h1 with h1
    injection h1 with _ h1
    exact absurd h1 (by decide)
  have hg5 := blk_below HG.out hb5'
  have hrow5 := blk_below HROW.out hb5'
  have hr5 := Kd.R_below HR.out hb5'
  have HB5 := Lib.hid (below_then (Below.refl B w) (Nat.le_trans HH.out.bg (Nat.le_of_lt (blk_lt HG.out))) hb5')
  have HG5 := Lib.hid hg5
  have HROW5 := Lib.hid hrow5
  have HR5 := Lib.hid hr5
  have HK5 := Lib.hid (KeepT.of_below (T := RefT) hb5')
  have hat5 := HAT.out i (by rw [List.length_map]; exact hi)
  rw [List.getElem_map] at hat5
  have hx0 := (blk_cell hg5 0).trans (show _ = some (Value.slice (some ⟨r, 0, none⟩) R.rows.length c0) from rfl)
  have hx1 := (blk_cell hg5 1).trans (show _ = some (Value.bool R.down) from rfl)
  have hx2 := (blk_cell hg5 2).trans (show _ = some (Value.int .i64 R.after) from rfl)
  have hx3 := (blk_cell hg5 3).trans (show _ = some (Value.int .i64 R.bytes) from rfl)
  have hx4 := (blk_cell hg5 4).trans (show _ = some (Value.int .i64 R.wrote) from rfl)
  have hx5 := (blk_cell hg5 5).trans (show _ = some (Value.int .i64 torn) from rfl)
  have hx6 := (blk_cell hg5 6).trans (show _ = some (Value.string was) from rfl)
  have hx7 := (blk_cell hg5 7).trans (show _ = some (Value.string meant) from rfl)
  have hxr := (blk_cell hrow5 i).trans hat5
  have hf1 := blk_frozen hg5 1
  have hf2 := blk_frozen hg5 2
  have hf4 := blk_frozen hg5 4
  have hf5 := blk_frozen hg5 5
  have hf6 := blk_frozen hg5 6
  have hf7 := blk_frozen hg5 7
  have hfr := blk_frozen hrow5 i
  have HNE := Lib.hid hne
  clear hg5 hrow5 hr5 hb5 hb5' hat5 hc0 hc1 hcc hse hne
  by_cases ha0 : R.after = 0
  · have hae : (R.after == 0) = true := beq_iff_eq.mpr ha0
    obtain ⟨old, hold⟩ : ∃ old, strOfNums (R.rows[i]) = old := ⟨_, rfl⟩
    rw [hold] at hxr
    have HOLD := Lib.hid hold
    clear hold
    have hy5r : (w5.setCell ⟨g, 5, none⟩ (.int .i64 (i : Int))).cell? ⟨r, i, none⟩ = some (.string old) := (cell_far (show r ≠ g from fun h => HNE.out h.symm) _).trans hxr
    have hyf6 : (w5.setCell ⟨g, 5, none⟩ (.int .i64 (i : Int))).frozen? ⟨g, 6, none⟩ = false := by rw [World.frozen?_setCell]; exact hf6
    have hyf7 : ((w5.setCell ⟨g, 5, none⟩ (.int .i64 (i : Int))).setCell ⟨g, 6, none⟩ (.string old)).frozen? ⟨g, 7, none⟩ = false := by rw [World.frozen?_setCell, World.frozen?_setCell]; exact hf7
    have hne2 : r ≠ g := fun h => HNE.out h.symm
    have hg6 := blk_put HG5.out 5 (.int .i64 (i : Int)) (cs' := refCells (.slice (some ⟨r, 0, none⟩) R.rows.length c0) R.down R.after R.bytes R.wrote (i : Int) was meant) rfl
    have hg7 := blk_put hg6 6 (.string old) (cs' := refCells (.slice (some ⟨r, 0, none⟩) R.rows.length c0) R.down R.after R.bytes R.wrote (i : Int) old meant) rfl
    have hg8 := blk_put hg7 7 (.string s) (cs' := refCells (.slice (some ⟨r, 0, none⟩) R.rows.length c0) R.down R.after R.bytes R.wrote (i : Int) old s) rfl
    have hr8 := Kd.R_set (Kd.R_set (Kd.R_set HR5.out HG5.out (by decide) 5 (.int .i64 (i : Int))) hg6 (by decide) 6 (.string old)) hg7 (by decide) 7 (.string s)
    have hrow8 := blk_far (blk_far (blk_far HROW5.out (p := ⟨g, 5, none⟩) hne2 (.int .i64 (i : Int))) (p := ⟨g, 6, none⟩) hne2 (.string old)) (p := ⟨g, 7, none⟩) hne2 (.string s)
    have hk8 := ((((Kp.refl w5 g).set 5 (.int .i64 (i : Int))).set 6 (.string old)).set 7 (.string s)).kt (T := RefT) HG5.out (by decide)
    have hb8 := ((HB5.out.setCell (p := ⟨g, 5, none⟩) HH.out.bg (.int .i64 (i : Int))).setCell (p := ⟨g, 6, none⟩) HH.out.bg (.string old)).setCell (p := ⟨g, 7, none⟩) HH.out.bg (.string s)
    go_wp2_with fail
    obtain ⟨w8, hw8⟩ : ∃ w8, ((w5.setCell ⟨g, 5, none⟩ (.int .i64 (i : Int))).setCell ⟨g, 6, none⟩ (.string old)).setCell ⟨g, 7, none⟩ (.string s) = w8 := ⟨_, rfl⟩
    rw [hw8] at hg8 hr8 hrow8 hk8 hb8 ⊢
    have HG8 := Lib.hid hg8
    have HR8 := Lib.hid hr8
    have HROW8 := Lib.hid hrow8
    have HK8 := Lib.hid (HK5.out.trans hk8)
    have HB8 := Lib.hid hb8
    have hold := HAT.out i (by rw [List.length_map]; exact hi)
    rw [List.getElem_map, HOLD.out] at hold
    have hz0 : w8.drew.cell? ⟨g, 0, none⟩ = some (.slice (some ⟨r, 0, none⟩) R.rows.length c0) := (blk_cell hg8 0).trans rfl
    have hz3 : w8.drew.cell? ⟨g, 3, none⟩ = some (.int .i64 R.bytes) := (blk_cell hg8 3).trans rfl
    have hzr : w8.drew.cell? ⟨r, i, none⟩ = some (.string old) := (blk_cell hrow8 i).trans hold
    have hss : s.size = 64 := by rw [← HS.out, strOfNums_size]; exact padOf_len (by omega)
    have hos : old.size = 64 := by rw [← HOLD.out, strOfNums_size]; exact (hby _ (List.getElem_mem hi)).2
    have hbs : R.bytes ≤ (s.size : Int) := by rw [hss]; exact hk.2
    have hbo : R.bytes ≤ (old.size : Int) := by rw [hos]; exact hk.2
    have hb0 : 0 ≤ R.bytes := hk.1
    have hcat : ¬ 9223372036854775807 < old.size := by rw [hos]; omega
    have hfr8 := blk_frozen hrow8 i
    clear hss hos
    clear hg6 hg7 hg8 hr8 hrow8 hk8 hb8 hw8 hold hxr hx0 hx1 hx2 hx3 hx4 hx5 hx6 hx7 hf1 hf2 hf4 hf5 hf6 hf7 hfr hy5r hyf6 hyf7 hHeld
    refine start_ (n := 26) (S := fun w' => w'.cell? ⟨g, 0, none⟩ = some (.slice (some ⟨r, 0, none⟩) R.rows.length c0) ∧ w'.cell? ⟨g, 3, none⟩ = some (.int .i64 R.bytes) ∧ w'.cell? ⟨r, i, none⟩ = some (.string old)) (ds := [25]) #[false, false, false, false, false, false, false, false, false, false, false, false, false, false, false, false, false, false, false, false, false, false, false, false, false, false] (by kernel_rfl) rfl rfl ⟨hz0, hz3, hzr⟩ (fun hHeld => ?_)
    refine pure_ (i := 0) (N := some 58) (v := ?_) (a' := ?_) #[true, false, false, false, false, false, false, false, false, false, false, false, false, false, false, false, false, false, false, false, false, false, false, false, false, false] rfl rfl (by kernel_rfl) (fun _ _ _ h => h) (Or.inl ⟨by rfl, ?_⟩) ?_ ?_
    rotate_left
    · intro w'
      go_simp
      with_reducible rfl
    rotate_left
    · simp only [Act.put, List.setIfInBounds_toArray, List.set_cons_zero, List.set_cons_succ, i64_w, i32_w]
      rfl
    refine pure_ (i := 1) (N := some 59) (v := ?_) (a' := ?_) #[true, true, false, false, false, false, false, false, false, false, false, false, false, false, false, false, false, false, false, false, false, false, false, false, false, false] rfl rfl (by kernel_rfl) (fun _ _ _ h => h) (Or.inl ⟨by rfl, ?_⟩) ?_ ?_
    rotate_left
    · intro w'
      go_simp
      with_reducible rfl
    rotate_left
    · simp only [Act.put, List.setIfInBounds_toArray, List.set_cons_zero, List.set_cons_succ, i64_w, i32_w]
      rfl
    refine pure_ (i := 2) (N := some 60) (v := ?_) (a' := ?_) #[true, true, true, false, false, false, false, false, false, false, false, false, false, false, false, false, false, false, false, false, false, false, false, false, false, false] rfl rfl (by kernel_rfl) (fun _ _ _ h => h) (Or.inl ⟨by rfl, ?_⟩) ?_ ?_
    rotate_left
    · intro w'
      go_simp
      with_reducible rfl
    rotate_left
    · simp only [Act.put, List.setIfInBounds_toArray, List.set_cons_zero, List.set_cons_succ, i64_w, i32_w]
      rfl
    refine pure_ (i := 4) (N := some 62) (v := ?_) (a' := ?_) #[true, true, true, false, true, false, false, false, false, false, false, false, false, false, false, false, false, false, false, false, false, false, false, false, false, false] rfl rfl (by kernel_rfl) (fun _ _ _ h => h) (Or.inl ⟨by rfl, ?_⟩) ?_ ?_
    rotate_left
    · intro w'
      go_simp
      with_reducible rfl
    rotate_left
    · simp only [Act.put, List.setIfInBounds_toArray, List.set_cons_zero, List.set_cons_succ, i64_w, i32_w]
      rfl
    refine pure_ (i := 5) (N := some 63) (v := ?_) (a' := ?_) #[true, true, true, false, true, true, false, false, false, false, false, false, false, false, false, false, false, false, false, false, false, false, false, false, false, false] rfl rfl (by kernel_rfl) (fun _ _ _ h => h) (Or.inl ⟨by rfl, ?_⟩) ?_ ?_
    rotate_left
    · intro w'
      go_simp
      with_reducible rfl
    rotate_left
    · simp only [Act.put, List.setIfInBounds_toArray, List.set_cons_zero, List.set_cons_succ, i64_w, i32_w]
      rfl
    refine pure_ (i := 6) (N := some 64) (v := ?_) (a' := ?_) #[true, true, true, false, true, true, true, false, false, false, false, false, false, false, false, false, false, false, false, false, false, false, false, false, false, false] rfl rfl (by kernel_rfl) (fun _ _ _ h => h) (Or.inl ⟨by rfl, ?_⟩) ?_ ?_
    rotate_left
    · intro w'
      go_simp
      with_reducible rfl
    rotate_left
    · simp only [Act.put, List.setIfInBounds_toArray, List.set_cons_zero, List.set_cons_succ, i64_w, i32_w]
      rfl
    refine pure_ (i := 7) (N := some 65) (v := ?_) (a' := ?_) #[true, true, true, false, true, true, true, true, false, false, false, false, false, false, false, false, false, false, false, false, false, false, false, false, false, false] rfl rfl (by kernel_rfl) (fun _ _ _ h => h) (Or.inl ⟨by rfl, ?_⟩) ?_ ?_
    rotate_left
    · intro w'
      go_simp
      with_reducible rfl
    rotate_left
    · simp only [Act.put, List.setIfInBounds_toArray, List.set_cons_zero, List.set_cons_succ, i64_w, i32_w]
      rfl
    refine pure_ (i := 8) (N := some 66) (v := ?_) (a' := ?_) #[true, true, true, false, true, true, true, true, true, false, false, false, false, false, false, false, false, false, false, false, false, false, false, false, false, false] rfl rfl (by kernel_rfl) (fun _ _ _ h => h) (Or.inl ⟨by rfl, ?_⟩) ?_ ?_
    rotate_left
    · intro w'
      go_simp
      with_reducible rfl
    rotate_left
    · simp only [Act.put, List.setIfInBounds_toArray, List.set_cons_zero, List.set_cons_succ, i64_w, i32_w]
      rfl
    refine pure_ (i := 11) (N := some 69) (v := ?_) (a' := ?_) #[true, true, true, false, true, true, true, true, true, false, false, true, false, false, false, false, false, false, false, false, false, false, false, false, false, false] rfl rfl (by kernel_rfl) (fun _ _ _ h => h) (Or.inl ⟨by rfl, ?_⟩) ?_ ?_
    rotate_left
    · intro w'
      go_simp
      with_reducible rfl
    rotate_left
    · simp only [Act.put, List.setIfInBounds_toArray, List.set_cons_zero, List.set_cons_succ, i64_w, i32_w]
      rfl
    refine pure_ (i := 12) (N := some 70) (v := ?_) (a' := ?_) #[true, true, true, false, true, true, true, true, true, false, false, true, true, false, false, false, false, false, false, false, false, false, false, false, false, false] rfl rfl (by kernel_rfl) (fun _ _ _ h => h) (Or.inl ⟨by rfl, ?_⟩) ?_ ?_
    rotate_left
    · intro w'
      go_simp
      with_reducible rfl
    rotate_left
    · simp only [Act.put, List.setIfInBounds_toArray, List.set_cons_zero, List.set_cons_succ, i64_w, i32_w]
      rfl
    refine pure_ (i := 13) (N := some 71) (v := ?_) (a' := ?_) #[true, true, true, false, true, true, true, true, true, false, false, true, true, true, false, false, false, false, false, false, false, false, false, false, false, false] rfl rfl (by kernel_rfl) (fun _ _ _ h => h) (Or.inl ⟨by rfl, ?_⟩) ?_ ?_
    rotate_left
    · intro w'
      go_simp
      with_reducible rfl
    rotate_left
    · simp only [Act.put, List.setIfInBounds_toArray, List.set_cons_zero, List.set_cons_succ, i64_w, i32_w]
      rfl
    refine pure_ (i := 15) (N := some 73) (v := ?_) (a' := ?_) #[true, true, true, false, true, true, true, true, true, false, false, true, true, true, false, true, false, false, false, false, false, false, false, false, false, false] rfl rfl (by kernel_rfl) (fun _ _ _ h => h) (Or.inl ⟨by rfl, ?_⟩) ?_ ?_
    rotate_left
    · intro w'
      go_simp
      with_reducible rfl
    rotate_left
    · simp only [Act.put, List.setIfInBounds_toArray, List.set_cons_zero, List.set_cons_succ, i64_w, i32_w]
      rfl
    refine pure_ (i := 18) (N := some 76) (v := ?_) (a' := ?_) #[true, true, true, false, true, true, true, true, true, false, false, true, true, true, false, true, false, false, true, false, false, false, false, false, false, false] rfl rfl (by kernel_rfl) (fun _ _ _ h => h) (Or.inl ⟨by rfl, ?_⟩) ?_ ?_
    rotate_left
    · intro w'
      go_simp
      with_reducible rfl
    rotate_left
    · simp only [Act.put, List.setIfInBounds_toArray, List.set_cons_zero, List.set_cons_succ, i64_w, i32_w]
      rfl
    refine pure_ (i := 19) (N := some 77) (v := ?_) (a' := ?_) #[true, true, true, false, true, true, true, true, true, false, false, true, true, true, false, true, false, false, true, true, false, false, false, false, false, false] rfl rfl (by kernel_rfl) (fun _ _ _ h => h) (Or.inl ⟨by rfl, ?_⟩) ?_ ?_
    rotate_left
    · intro w'
      go_simp
      with_reducible rfl
    rotate_left
    · simp only [Act.put, List.setIfInBounds_toArray, List.set_cons_zero, List.set_cons_succ, i64_w, i32_w]
      rfl
    refine pure_ (i := 20) (N := some 78) (v := ?_) (a' := ?_) #[true, true, true, false, true, true, true, true, true, false, false, true, true, true, false, true, false, false, true, true, true, false, false, false, false, false] rfl rfl (by kernel_rfl) (fun _ _ _ h => h) (Or.inl ⟨by rfl, ?_⟩) ?_ ?_
    rotate_left
    · intro w'
      go_simp
      with_reducible rfl
    rotate_left
    · simp only [Act.put, List.setIfInBounds_toArray, List.set_cons_zero, List.set_cons_succ, i64_w, i32_w]
      rfl
    refine take_ (i := 3) (N := some 61) (v := ?_) (a' := ?_) #[true, true, true, true, true, true, true, true, true, false, false, true, true, true, false, true, false, false, true, true, true, false, false, false, false, false] rfl rfl (by kernel_rfl) (fun _ _ _ h => h) (Or.inl ⟨by rfl, ?_⟩) hHeld ?_ ?_
    rotate_left
    · rintro w' ⟨s0, s1, s2⟩
      go_simp
      with_reducible rfl
    rotate_left
    · simp only [Act.put, List.setIfInBounds_toArray, List.set_cons_zero, List.set_cons_succ, i64_w, i32_w]
      rfl
    refine take_ (i := 9) (N := some 67) (v := ?_) (a' := ?_) #[true, true, true, true, true, true, true, true, true, true, false, true, true, true, false, true, false, false, true, true, true, false, false, false, false, false] rfl rfl (by kernel_rfl) (fun _ _ _ h => h) (Or.inl ⟨by rfl, ?_⟩) hHeld ?_ ?_
    rotate_left
    · rintro w' ⟨s0, s1, s2⟩
      go_simp
      with_reducible rfl
    rotate_left
    · simp only [Act.put, List.setIfInBounds_toArray, List.set_cons_zero, List.set_cons_succ, i64_w, i32_w]
      rfl
    refine pure_ (i := 10) (N := some 68) (v := ?_) (a' := ?_) #[true, true, true, true, true, true, true, true, true, true, true, true, true, true, false, true, false, false, true, true, true, false, false, false, false, false] rfl rfl (by kernel_rfl) (fun _ _ _ h => h) (Or.inl ⟨by rfl, ?_⟩) ?_ ?_
    rotate_left
    · intro w'
      go_simp
      with_reducible rfl
    rotate_left
    · simp only [Act.put, List.setIfInBounds_toArray, List.set_cons_zero, List.set_cons_succ, i64_w, i32_w]
      rfl
    refine take_ (i := 14) (N := some 72) (v := ?_) (a' := ?_) #[true, true, true, true, true, true, true, true, true, true, true, true, true, true, true, true, false, false, true, true, true, false, false, false, false, false] rfl rfl (by kernel_rfl) (fun _ _ _ h => h) (Or.inl ⟨by rfl, ?_⟩) hHeld ?_ ?_
    rotate_left
    · rintro w' ⟨s0, s1, s2⟩
      go_simp
      with_reducible rfl
    rotate_left
    · simp only [Act.put, List.setIfInBounds_toArray, List.set_cons_zero, List.set_cons_succ, i64_w, i32_w]
      rfl
    refine pure_ (i := 16) (N := some 74) (v := ?_) (a' := ?_) #[true, true, true, true, true, true, true, true, true, true, true, true, true, true, true, true, true, false, true, true, true, false, false, false, false, false] rfl rfl (by kernel_rfl) (fun _ _ _ h => h) (Or.inl ⟨by rfl, ?_⟩) ?_ ?_
    rotate_left
    · intro w'
      go_simp
      with_reducible rfl
    rotate_left
    · simp only [Act.put, List.setIfInBounds_toArray, List.set_cons_zero, List.set_cons_succ, i64_w, i32_w]
      rfl
    refine take_ (i := 17) (N := some 75) (v := ?_) (a' := ?_) #[true, true, true, true, true, true, true, true, true, true, true, true, true, true, true, true, true, true, true, true, true, false, false, false, false, false] rfl rfl (by kernel_rfl) (fun _ _ _ h => h) (Or.inl ⟨by rfl, ?_⟩) hHeld ?_ ?_
    rotate_left
    · rintro w' ⟨s0, s1, s2⟩
      go_simp
      with_reducible rfl
    rotate_left
    · simp only [Act.put, List.setIfInBounds_toArray, List.set_cons_zero, List.set_cons_succ, i64_w, i32_w]
      rfl
    refine take_ (i := 21) (N := some 79) (v := ?_) (a' := ?_) #[true, true, true, true, true, true, true, true, true, true, true, true, true, true, true, true, true, true, true, true, true, true, false, false, false, false] rfl rfl (by kernel_rfl) (fun _ _ _ h => h) (Or.inl ⟨by rfl, ?_⟩) hHeld ?_ ?_
    rotate_left
    · rintro w' ⟨s0, s1, s2⟩
      go_simp
      with_reducible rfl
    rotate_left
    · simp only [Act.put, List.setIfInBounds_toArray, List.set_cons_zero, List.set_cons_succ, i64_w, i32_w]
      rfl
    refine pure_ (i := 22) (N := some 80) (v := ?_) (a' := ?_) #[true, true, true, true, true, true, true, true, true, true, true, true, true, true, true, true, true, true, true, true, true, true, true, false, false, false] rfl rfl (by kernel_rfl) (fun _ _ _ h => h) (Or.inl ⟨by rfl, ?_⟩) ?_ ?_
    rotate_left
    · intro w'
      go_simp
      with_reducible rfl
    rotate_left
    · simp only [Act.put, List.setIfInBounds_toArray, List.set_cons_zero, List.set_cons_succ, i64_w, i32_w]
      rfl
    refine pure_ (i := 23) (N := some 81) (v := ?_) (a' := ?_) #[true, true, true, true, true, true, true, true, true, true, true, true, true, true, true, true, true, true, true, true, true, true, true, true, false, false] rfl rfl (by kernel_rfl) (fun _ _ _ h => h) (Or.inl ⟨by rfl, ?_⟩) ?_ ?_
    rotate_left
    · intro w'
      go_simp
      with_reducible rfl
    rotate_left
    · simp only [Act.put, List.setIfInBounds_toArray, List.set_cons_zero, List.set_cons_succ, i64_w, i32_w]
      rfl
    refine pure_ (i := 24) (N := some 82) (v := ?_) (a' := ?_) #[true, true, true, true, true, true, true, true, true, true, true, true, true, true, true, true, true, true, true, true, true, true, true, true, true, false] rfl rfl (by kernel_rfl) (fun _ _ _ h => h) (Or.inl ⟨by rfl, ?_⟩) ?_ ?_
    rotate_left
    · intro w'
      go_simp
      with_reducible rfl
    rotate_left
    · simp only [Act.put, List.setIfInBounds_toArray, List.set_cons_zero, List.set_cons_succ, i64_w, i32_w]
      rfl
    refine last_ (i := 25) (N := none) #[true, true, true, true, true, true, true, true, true, true, true, true, true, true, true, true, true, true, true, true, true, true, true, true, true, true] rfl rfl (by kernel_rfl) (by decide) (fun K hK => ?_)
    refine skip_ (w1 := ?_) (by rfl) rfl ?_ ?_
    rotate_left
    · go_simp
      rfl
    refine hK.out _ _ ?_
    clear hK K
    refine done_ (by kernel_rfl) ?_
    obtain ⟨new, hnew⟩ : ∃ new, s.extract 0 R.bytes.toNat ++ old.extract R.bytes.toNat old.size = new := ⟨_, rfl⟩
    rw [hnew]
    have hN : strOfNums ((padOf b).take R.bytes.toNat ++ (R.rows.getD i []).drop R.bytes.toNat) = new := by
      rw [← hnew, ← HS.out, ← HOLD.out, str_cut, List.getD_eq_getElem?_getD, List.getElem?_eq_getElem hi]; rfl
    have hrp := Kd.R_put (enc := Value.string) (h1 := fun _ => rfl) (xs := R.rows.map strOfNums) (cap := c0) (W := w8) (base := B) (ok := fun _ => True) (e := 9) (g := r) HR8.out (i : Int) new
    rw [Int.toNat_natCast, List.length_map] at hrp
    have HRP := Lib.hid hrp.1
    have hg9 := blk_far HG8.out (p := ⟨r, i, none⟩) (show g ≠ r from HNE.out) (.string new)
    have hk9 := ((Kp.refl w8 r).set i (.string new)).kt (T := RefT) HROW8.out (by decide)
    have hb9 := HB8.out.setCell (p := ⟨r, i, none⟩) hbr (.string new)
    have hg9' : (w8.setCell ⟨r, i, none⟩ (.string new)).drew.heap[g]? = _ := hg9
    have hk9' : KeepT RefT w8 (w8.setCell ⟨r, i, none⟩ (.string new)).drew := hk9
    have hb9' := below_drew hb9
    have hrp' : Kd.R Kd.string 9 (w8.setCell ⟨r, i, none⟩ (.string new)).drew _ _ _ _ := HRP.out
    obtain ⟨w9, hw9⟩ : ∃ w9, (w8.setCell ⟨r, i, none⟩ (.string new)).drew = w9 := ⟨_, rfl⟩
    rw [hw9] at hg9' hk9' hb9' hrp' ⊢
    have HG9 := Lib.hid hg9'
    have HK9 := Lib.hid (HK8.out.trans hk9')
    have HB9 := Lib.hid hb9'
    have HR9 := Lib.hid hrp'
    have HN := Lib.hid hN
    have hx1 := (blk_cell hg9' 1).trans (show _ = some (Value.bool R.down) from rfl)
    have hx2 := (blk_cell hg9' 2).trans (show _ = some (Value.int .i64 R.after) from rfl)
    have hf1 := blk_frozen hg9' 1
    have hf2 := blk_frozen hg9' 2
    have hyf2 : (w9.setCell ⟨g, 1, none⟩ (.bool true)).frozen? ⟨g, 2, none⟩ = false := by rw [World.frozen?_setCell]; exact hf2
    clear hrp hg9 hg9' hk9 hk9' hb9 hb9' hrp' hw9 hN hnew HRP hHeld hz0 hz3 hzr hbs hbo hcat hfr8
    go_wp2_with fail
    go_ret
    have h1 := blk_put HG9.out 1 (.bool true) (cs' := refCells (.slice (some ⟨r, 0, none⟩) R.rows.length c0) true R.after R.bytes R.wrote (i : Int) old s) rfl
    have h2 := blk_put h1 2 (.int .i64 (-1)) (cs' := refCells (.slice (some ⟨r, 0, none⟩) R.rows.length c0) true (-1) R.bytes R.wrote (i : Int) old s) rfl
    have e : rput R i b = (101, { R with rows := R.rows.set i ((padOf b).take R.bytes.toNat ++ (R.rows.getD i []).drop R.bytes.toNat), down := true, after := -1 }) := by unfold rput; rw [if_pos ha0]
    rw [e]
    exact ⟨rfl, ⟨⟨_, _, _, _, h2, by rw [List.map_set, HN.out]; exact Kd.R_set (Kd.R_set HR9.out HG9.out (by decide) 1 _) h1 (by decide) 2 _⟩, HH.out.bg, by rw [List.length_set]; exact HH.out.pos, by rw [List.length_set]; exact HH.out.big⟩, (HB9.out.setCell (p := ⟨g, 1, none⟩) HH.out.bg _).setCell (p := ⟨g, 2, none⟩) HH.out.bg _, HK9.out.trans ((((Kp.refl w9 g).set 1 _).set 2 _).kt HG9.out (by decide))⟩
  · have hae : (R.after == 0) = false := beq_eq_false_iff_ne.mpr ha0
    have hy4 : (w5.setCell ⟨r, i, none⟩ (.string s)).cell? ⟨g, 4, none⟩ = some (.int .i64 R.wrote) := (cell_far (show g ≠ r from HNE.out) _).trans hx4
    have hy2 : (w5.setCell ⟨r, i, none⟩ (.string s)).cell? ⟨g, 2, none⟩ = some (.int .i64 R.after) := (cell_far (show g ≠ r from HNE.out) _).trans hx2
    have hyf4 : (w5.setCell ⟨r, i, none⟩ (.string s)).frozen? ⟨g, 4, none⟩ = false := by rw [World.frozen?_setCell]; exact hf4
    have hyf2 : (w5.setCell ⟨r, i, none⟩ (.string s)).frozen? ⟨g, 2, none⟩ = false := by rw [World.frozen?_setCell]; exact hf2
    have hrp := Kd.R_put (enc := Value.string) (h1 := fun _ => rfl) (xs := R.rows.map strOfNums) (cap := c0) (W := w5) (base := B) (ok := fun _ => True) (e := 9) (g := r) HR5.out (i : Int) s
    rw [Int.toNat_natCast, List.length_map] at hrp
    have HRP := Lib.hid hrp.1
    have hg6 := blk_far HG5.out (p := ⟨r, i, none⟩) (show g ≠ r from HNE.out) (.string s)
    have HG6 := Lib.hid hg6
    have hk6 : Kp w5 (w5.setCell ⟨r, i, none⟩ (.string s)) r := (Kp.refl w5 r).set i _
    have HK6 := Lib.hid (hk6.kt (T := RefT) HROW5.out (by decide))
    have HB6 := Lib.hid (HB5.out.setCell (p := ⟨r, i, none⟩) hbr (.string s))
    clear hrp hg6 hk6
    by_cases hap : 0 < R.after
    · go_wp2_with fail
      go_ret
      have h1 := blk_put HG6.out 4 (.int .i64 (wrap64 (R.wrote + 1))) (cs' := refCells (.slice (some ⟨r, 0, none⟩) R.rows.length c0) R.down R.after R.bytes (wrap64 (R.wrote + 1)) torn was meant) rfl
      have h2 := blk_put h1 2 (.int .i64 (R.after - 1)) (cs' := refCells (.slice (some ⟨r, 0, none⟩) R.rows.length c0) R.down (R.after - 1) R.bytes (wrap64 (R.wrote + 1)) torn was meant) rfl
      have e : rput R i b = (0, { R with rows := R.rows.set i (padOf b), wrote := wrap64 (R.wrote + 1), after := R.after - 1 }) := by unfold rput; rw [if_neg ha0, if_pos hap]
      rw [e]
      exact ⟨rfl, ⟨⟨_, _, _, _, h2, by rw [List.map_set, HS.out]; exact Kd.R_set (Kd.R_set HRP.out HG6.out (by decide) 4 _) h1 (by decide) 2 _⟩, HH.out.bg, by rw [List.length_set]; exact HH.out.pos, by rw [List.length_set]; exact HH.out.big⟩, (HB6.out.setCell (p := ⟨g, 4, none⟩) HH.out.bg _).setCell (p := ⟨g, 2, none⟩) HH.out.bg _, (HK5.out.trans HK6.out).trans ((((Kp.refl _ g).set 4 _).set 2 _).kt HG6.out (by decide))⟩
    · have hapd : decide (0 < R.after) = false := decide_eq_false hap
      go_wp2_with fail
      go_ret
      have h1 := blk_put HG6.out 4 (.int .i64 (wrap64 (R.wrote + 1))) (cs' := refCells (.slice (some ⟨r, 0, none⟩) R.rows.length c0) R.down R.after R.bytes (wrap64 (R.wrote + 1)) torn was meant) rfl
      have e : rput R i b = (0, { R with rows := R.rows.set i (padOf b), wrote := wrap64 (R.wrote + 1) }) := by unfold rput; rw [if_neg ha0, if_neg (by omega)]
      rw [e]
      exact ⟨rfl, ⟨⟨_, _, _, _, h1, by rw [List.map_set, HS.out]; exact Kd.R_set HRP.out HG6.out (by decide) 4 _⟩, HH.out.bg, by rw [List.length_set]; exact HH.out.pos, by rw [List.length_set]; exact HH.out.big⟩, HB6.out.setCell (p := ⟨g, 4, none⟩) HH.out.bg _, (HK5.out.trans HK6.out).trans (((Kp.refl _ g).set 4 _).kt HG6.out (by decide))⟩
theorem rwrite_any (B g : Nat) (R : Rk) (i : Int) (A : Option Addr) (c : Nat) (b : List Int) (w : World) (h : IsRk w B g R) (hbb : Bytes b) (hr2 : Kd.C (Kd.int .u8) w A b.length b)
    (hby : ∀ l ∈ R.rows, Bytes l ∧ l.length = 64) (hk : 0 ≤ R.bytes ∧ R.bytes ≤ 64) (ha : -1 ≤ R.after ∧ R.after ≤ 9223372036854775807) :
    Calls Try.prog 19 #[.pointer (some ⟨g, 0, none⟩), .int .i64 i, .slice A b.length c] w (RWPost w B g (rwriteOf R i b)) := by
  by_cases hn : R.down = true ∨ i < 0 ∨ (R.rows.length : Int) ≤ i ∨ 64 < b.length
  · exact rrefuse_any B g R i A c b w h hn _ rfl
  · have h1 : ¬ R.down = true := fun h => hn (.inl h)
    have h2 : ¬ i < 0 := fun h => hn (.inr (.inl h))
    have h3 : ¬ (R.rows.length : Int) ≤ i := fun h => hn (.inr (.inr (.inl h)))
    have h4 : ¬ 64 < b.length := fun h => hn (.inr (.inr (.inr h)))
    have e : rwriteOf R i b = rput R i.toNat b := by unfold rwriteOf; rw [if_neg h1, if_neg h2, if_neg h3, if_neg h4]
    rw [e]
    obtain ⟨j, rfl⟩ := Int.eq_ofNat_of_zero_le (show 0 ≤ i by omega)
    exact rput_any B g R j A c b w h (by simpa using h1) (by omega) (by omega) hbb hr2 hby hk ha
end Go.Proofs.Ytacpeilgjaodbaa
