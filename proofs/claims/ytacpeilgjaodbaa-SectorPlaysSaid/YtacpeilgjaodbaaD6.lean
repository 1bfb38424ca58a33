/- The disk's Write with a cut to come. -/
import Derived.Test.YtacpeilgjaodbaaD5
namespace Go.Proofs.Ytacpeilgjaodbaa
open Go.RowKit Go.Proofs.YtacpeilgjaodbaaW.PrintWords Go.Proofs.YtacpeilgjaodbaaW.PrintLast Go.Proofs.YtacpeilgjaodbaaW.PrintMore
set_option linter.unusedVariables false
set_option linter.unusedSimpArgs false
set_option maxRecDepth 100000 in
set_option maxHeartbeats 4000000 in
theorem write_some (B g r : Nat) (D : Dk) (i : Nat) (A : Option Addr) (c : Nat) (b : List Int) (w : World) (h : IsDisk w B g r D) (hd : D.down = false) (hi : i < D.n) (hb : b.length ≤ 64) (hbb : Bytes b) (hr : Kd.C (Kd.int .u8) w A b.length b) (a k : Int) (ha : a ≠ 0) (hcut : D.cut = some (a, k)) :
    Calls Try.prog 18 #[.pointer (some ⟨g, 0, none⟩), .int .i64 (i : Int), .slice A b.length c] w (WritePost w B g r (put D i b)) := by
  obtain ⟨p, hg, hcp⟩ := h.blk
  rw [hcut] at hcp
  obtain ⟨q, rfl, hBq, hqg, hqr, hq, ha0, ha63, hk0, hk64⟩ := hcp
  have HQ := Lib.hid hq
  have HA := Lib.hid (show 0 ≤ a - 1 ∧ a - 1 ≤ 9223372036854775807 by omega)
  have HK64 := Lib.hid (show 0 ≤ k ∧ k ≤ 64 from ⟨hk0, hk64⟩)
  have hae : (a == 0) = false := beq_eq_false_iff_ne.mpr ha
  have hae1 : (a - 1) = a - 1 := rfl
  have HWA := Lib.hid (show wrap64 (a - 1) = a - 1 by unfold wrap64; omega)
  clear hq ha0 ha63 hk0 hk64 hae1
  have hc0 : w.cell? ⟨g, 0, none⟩ = some (.slice (some ⟨r, 0, none⟩) D.n D.n) := (blk_cell hg 0).trans rfl
  have hc2 : w.cell? ⟨g, 2, none⟩ = some (.bool false) := by rw [← hd]; exact (blk_cell hg 2).trans rfl
  have hal := sliceAt_all (P := Try.prog) 52 5 64 Try.underlying52 (by kernel_rfl)
  have hz := zero_52
  have h0 : ¬ ((i : Int) < 0) := by omega
  have h1 : ¬ ((D.n : Int) ≤ (i : Int)) := by omega
  have h2 : ¬ ((64 : Int) < (b.length : Int)) := by omega
  have HD := Lib.hid h
  have HG := Lib.hid hg
  have HR := Lib.hid hr
  have HCUT := Lib.hid hcut
  clear h hg hd hcut hr
  have hw1 : (w.alloc (.cells (Array.replicate 64 (Value.int .u8 0)) 52)).heap[w.heap.size]? = some (.cells ((List.replicate 64 (0 : Int)).map (Value.int .u8)).toArray 52 (0, 0)) := by
    rw [blk_new, List.map_replicate, List.toArray_replicate]
  have HS := Lib.hid hw1
  have HBL : Hid (Below w.heap.size w (w.alloc (.cells (Array.replicate 64 (Value.int .u8 0)) 52))) := Lib.hid (below_alloc (Below.refl _ _) _)
  have HC : Hid ((b.map (Value.int .u8)).length = Nat.min b.length 64 ∧ (0 < (b.map (Value.int .u8)).length → (some (⟨w.heap.size, 0, none⟩ : Addr)) = some ⟨w.heap.size, 0, none⟩ ∧ ∃ ad, A = some ad ∧ ∀ j v, (b.map (Value.int .u8))[j]? = some v → (w.alloc (.cells (Array.replicate 64 (Value.int .u8 0)) 52)).cell? (ad.add j) = some v) ∧ (0 + (b.map (Value.int .u8)).length ≤ ((List.replicate 64 (0 : Int)).map (Value.int .u8)).length) ∧ (∀ v ∈ b.map (Value.int .u8), v.oneCell' = true)) := Lib.hid (copy_in HR.out HBL.out hb)
  have HPL := Lib.hid (padOf_len hb)
  clear hw1
  go_enter Try.func18, Try.ntmps18
  go_wp2_with (first | ((with_reducible refine gate_dst (N := 28) rfl ?_); refine wpList_copy_splice rfl (.tmp 26) (.tmp 27) 29 29 rfl 5 Try.underlying29 (by kernel_rfl) (some ⟨w.heap.size, 0, none⟩) A 64 64 b.length c rfl rfl w.heap.size 0 ((List.replicate 64 (0 : Int)).map (Value.int .u8)) 52 HS.out (b.map (Value.int .u8)) HC.out.1 HC.out.2.1 HC.out.2.2.1 HC.out.2.2.2 w.heap.size w HBL.out (Nat.le_refl _) ?_; intro w2 hg2 hb2; have HB2 := Lib.hid hb2; have HS2 := Lib.hid hg2.out; clear hg2 hb2; have hd0 : w2.cell? ⟨g, 0, none⟩ = some (.slice (some ⟨r, 0, none⟩) D.n D.n) := (blk_cell (blk_below HG.out HB2.out) 0).trans rfl; have hd1 : w2.cell? ⟨g, 1, none⟩ = some (.pointer (some ⟨q, 0, none⟩)) := (blk_cell (blk_below HG.out HB2.out) 1).trans rfl; have hdq : w2.cell? ⟨q, 0, none⟩ = some (.int .i64 a) := (blk_cell (blk_below HQ.out HB2.out) 0).trans rfl))
  have hn0 : (i : Int) < (D.n : Int) := by omega
  have HS3 : Hid (w2.heap[w.heap.size]? = some (.cells ((padOf b).map (Value.int .u8)).toArray 52 (0, 0))) := Lib.hid (by rw [HS2.out]; unfold padOf; rw [map_splice])
  have HROW : Hid (w2.drew.heap[r]? = some (.cells (D.rows.map (Value.int .u8)).toArray 52 (0, 0))) := Lib.hid (show w2.heap[r]? = _ from blk_below HD.out.row HB2.out)
  have HST : Hid ((Try.prog.info? 52).map (·.size) = some ((padOf b).map (Value.int .u8)).toArray.size ∧ i * 64 + ((padOf b).map (Value.int .u8)).toArray.size ≤ (D.rows.map (Value.int .u8)).length ∧ ((padOf b).map (Value.int .u8)).toArray.all (·.oneCell') = true) := Lib.hid ⟨by rw [show (Try.prog.info? 52).map (·.size) = some 64 by kernel_rfl]; simp [HPL.out], by simp [HPL.out, HD.out.len]; omega, by simp [Value.oneCell']⟩
  have hsr : r < w.heap.size := blk_lt HD.out.row
  have hsg : g < w.heap.size := blk_lt HG.out
  have HG2 : Hid (w2.drew.heap[g]? = some (.cells (diskCells r D (some ⟨q, 0, none⟩)) 46 (0, 0))) := Lib.hid (show w2.heap[g]? = _ from blk_below HG.out HB2.out)
  have hsg2 : g < w2.drew.heap.size := blk_lt HG2.out
  have HQ2 : Hid (w2.drew.heap[q]? = some (.cells #[.int .i64 a, .int .i64 k] 54 (0, 0))) := Lib.hid (show w2.heap[q]? = _ from blk_below HQ.out HB2.out)
  have hsq2 : q < w2.drew.heap.size := blk_lt HQ2.out
  have HS4 : Hid (w2.drew.heap[w.heap.size]? = some (.cells ((padOf b).map (Value.int .u8)).toArray 52 (0, 0))) := Lib.hid HS3.out
  refine start_ (n := 8) (S := fun w' => w'.cell? ⟨g, 0, none⟩ = some (.slice (some ⟨r, 0, none⟩) D.n D.n)) (ds := []) #[false, false, false, false, false, false, false, false] (by kernel_rfl) rfl rfl (hd0) (fun hHeld => ?_)
  refine pure_ (i := 0) (N := some 66) (v := ?_) (a' := ?_) #[true, false, false, false, false, false, false, false] rfl rfl (by kernel_rfl) (fun _ _ _ h => h) (Or.inl ⟨by rfl, ?_⟩) ?_ ?_
  rotate_left
  · intro w'
    go_simp
    with_reducible rfl
  rotate_left
  · simp only [Act.put, List.setIfInBounds_toArray, List.set_cons_zero, List.set_cons_succ, i64_w, i32_w]
    rfl
  refine pure_ (i := 1) (N := some 67) (v := ?_) (a' := ?_) #[true, true, false, false, false, false, false, false] rfl rfl (by kernel_rfl) (fun _ _ _ h => h) (Or.inl ⟨by rfl, ?_⟩) ?_ ?_
  rotate_left
  · intro w'
    go_simp
    with_reducible rfl
  rotate_left
  · simp only [Act.put, List.setIfInBounds_toArray, List.set_cons_zero, List.set_cons_succ, i64_w, i32_w]
    rfl
  refine pure_ (i := 2) (N := some 68) (v := ?_) (a' := ?_) #[true, true, true, false, false, false, false, false] rfl rfl (by kernel_rfl) (fun _ _ _ h => h) (Or.inl ⟨by rfl, ?_⟩) ?_ ?_
  rotate_left
  · intro w'
    go_simp
    with_reducible rfl
  rotate_left
  · simp only [Act.put, List.setIfInBounds_toArray, List.set_cons_zero, List.set_cons_succ, i64_w, i32_w]
    rfl
  refine pure_ (i := 4) (N := some 70) (v := ?_) (a' := ?_) #[true, true, true, false, true, false, false, false] rfl rfl (by kernel_rfl) (fun _ _ _ h => h) (Or.inl ⟨by rfl, ?_⟩) ?_ ?_
  rotate_left
  · intro w'
    go_simp
    with_reducible rfl
  rotate_left
  · simp only [Act.put, List.setIfInBounds_toArray, List.set_cons_zero, List.set_cons_succ, i64_w, i32_w]
    rfl
  refine take_ (i := 3) (N := some 69) (v := ?_) (a' := ?_) #[true, true, true, true, true, false, false, false] rfl rfl (by kernel_rfl) (fun _ _ _ h => h) (Or.inl ⟨by rfl, ?_⟩) hHeld ?_ ?_
  rotate_left
  · rintro w' s0
    go_simp
    with_reducible rfl
  rotate_left
  · simp only [Act.put, List.setIfInBounds_toArray, List.set_cons_zero, List.set_cons_succ, i64_w, i32_w]
    rfl
  refine one_ (i := 5) (N := some 71) #[true, true, true, true, true, true, false, false] rfl rfl (by kernel_rfl) (by decide) (fun K hK => ?_)
  refine step_load_at rfl 52 (.tmp 7) rfl w.heap.size rfl 52 ((padOf b).map (Value.int .u8)).toArray (0, 0) _ HS4.out Try.underlying52 rfl HST.out.1 ?_
  refine hK.out _ _ (hd0) (fun hHeld => ?_)
  clear hK K
  refine norm_ (a' := ?_) ?_ ?_
  rotate_left
  · show Act.put _ (some 71) _ = _
    simp only [Act.put, List.setIfInBounds_toArray, List.set_cons_zero, List.set_cons_succ, i64_w, i32_w]
    rfl
  refine pure_ (i := 6) (N := some 72) (v := ?_) (a' := ?_) #[true, true, true, true, true, true, true, false] rfl rfl (by kernel_rfl) (fun _ _ _ h => h) (Or.inl ⟨by rfl, ?_⟩) ?_ ?_
  rotate_left
  · intro w'
    go_simp
    with_reducible rfl
  rotate_left
  · simp only [Act.put, List.setIfInBounds_toArray, List.set_cons_zero, List.set_cons_succ, i64_w, i32_w]
    rfl
  refine one_ (i := 7) (N := none) #[true, true, true, true, true, true, true, true] rfl rfl (by kernel_rfl) (by decide) (fun K hK => ?_)
  refine step_store_keep rfl 52 (.tmp 72) (.tmp 71) rfl r (i * 64) ((padOf b).map (Value.int .u8)).toArray rfl rfl 52 (D.rows.map (Value.int .u8)) HROW.out HST.out.1 HST.out.2.1 HST.out.2.2 ?_
  intro w3 hg3 hk3
  have HQ3 := Lib.hid ((hk3.block q hsq2 hqr).trans HQ2.out)
  have HG3 := Lib.hid ((hk3.block g hsg2 HD.out.ne).trans HG2.out)
  have HR3 := Lib.hid hg3
  have HK3 := Lib.hid hk3.drew
  have hx0 : w3.cell? ⟨g, 0, none⟩ = some (.slice (some ⟨r, 0, none⟩) D.n D.n) := (blk_cell HG3.out 0).trans rfl
  clear hg3 hk3
  refine hK.out _ _ (hx0) (fun hHeld => ?_)
  clear hK K
  refine done_ (by kernel_rfl) ?_
  have hy1 : w3.cell? ⟨g, 1, none⟩ = some (.pointer (some ⟨q, 0, none⟩)) := (blk_cell HG3.out 1).trans rfl
  have hy3 : w3.cell? ⟨g, 3, none⟩ = some (.int .i64 D.wrote) := (blk_cell HG3.out 3).trans rfl
  have hyf := blk_frozen HG3.out 3
  have hyq : w3.cell? ⟨q, 0, none⟩ = some (.int .i64 a) := (blk_cell HQ3.out 0).trans rfl
  have hyqf := blk_frozen HQ3.out 0
  have hwa := HWA.out
  clear hd0 hd1 hdq hx0 hc0 hc2
  go_wp2_with fail
  go_ret
  have hk4 : Kp w3 (w3.setCell ⟨g, 3, none⟩ (.int .i64 (wrap64 (D.wrote + 1)))) g := (Kp.refl w3 g).set 3 _
  have hg4 := blk_put HG3.out 3 (.int .i64 (wrap64 (D.wrote + 1))) rfl
  have hq4 := (hk4.block q (blk_lt HQ3.out) hqg).trans HQ3.out
  have hr4 := (hk4.block r (blk_lt HR3.out) (Ne.symm HD.out.ne)).trans HR3.out
  have hk5 : Kp (w3.setCell ⟨g, 3, none⟩ (.int .i64 (wrap64 (D.wrote + 1)))) ((w3.setCell ⟨g, 3, none⟩ (.int .i64 (wrap64 (D.wrote + 1)))).setCell ⟨q, 0, none⟩ (.int .i64 (a - 1))) q := (Kp.refl _ q).set 0 _
  have hB2 : Below B w w2 := below_then (Below.refl B w) HD.out.lt HB2.out
  have hB3 : Below B w w3 := hB2.trans (HK3.out.below HD.out.br (Nat.le_trans HD.out.lt hB2.size))
  have hB4 : Below B w (w3.setCell ⟨g, 3, none⟩ (.int .i64 (wrap64 (D.wrote + 1)))) := hB3.trans (hk4.below HD.out.bg (Nat.le_trans HD.out.lt hB3.size))
  have e : put D i b = (0, { D with rows := splice D.rows (i * 64) (padOf b), wrote := wrap64 (D.wrote + 1), cut := some (a - 1, k) }) := by
    unfold put
    rw [HCUT.out]
    show (if a = 0 then _ else _) = _
    rw [if_neg ha]
  rw [e]
  refine ⟨rfl, ⟨⟨some ⟨q, 0, none⟩, (hk5.block g (blk_lt hg4) (Ne.symm hqg)).trans hg4, ⟨q, rfl, hBq, hqg, hqr, blk_put hq4 0 _ rfl, HA.out.1, HA.out.2, HK64.out.1, HK64.out.2⟩⟩, ?_, ?_, bytes_splice HD.out.byt (bytes_pad hbb), HD.out.ne, HD.out.bg, HD.out.br, HD.out.big⟩, hB4.trans (hk5.below hBq (Nat.le_trans HD.out.lt hB4.size)), (KeepT.of_below HB2.out).trans ((HK3.out.kt HROW.out (by decide)).trans ((hk4.kt HG3.out (by decide)).trans (hk5.kt hq4 (by decide))))⟩
  · rw [hk5.block r (blk_lt hr4) (Ne.symm hqr), hr4, ← map_splice]
  · show (splice D.rows (i * 64) (padOf b)).length = 64 * D.n
    rw [length_splice _ _ _ (by rw [HPL.out, HD.out.len]; omega), HD.out.len]
end Go.Proofs.Ytacpeilgjaodbaa
