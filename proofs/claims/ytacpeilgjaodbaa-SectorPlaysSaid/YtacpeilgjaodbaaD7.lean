/- The disk's Write that is cut. -/
import Derived.Test.YtacpeilgjaodbaaD6
namespace Go.Proofs.Ytacpeilgjaodbaa
open Go.RowKit Go.Proofs.YtacpeilgjaodbaaW.PrintWords Go.Proofs.YtacpeilgjaodbaaW.PrintLast Go.Proofs.YtacpeilgjaodbaaW.PrintMore
set_option linter.unusedVariables false
set_option linter.unusedSimpArgs false
set_option maxRecDepth 100000 in
set_option maxHeartbeats 4000000 in
theorem write_cut (B g r : Nat) (D : Dk) (i : Nat) (A : Option Addr) (c : Nat) (b : List Int) (w : World) (h : IsDisk w B g r D) (hd : D.down = false) (hi : i < D.n) (hb : b.length ≤ 64) (hbb : Bytes b) (hr : Kd.C (Kd.int .u8) w A b.length b) (k : Int) (hcut : D.cut = some (0, k)) :
    Calls Try.prog 18 #[.pointer (some ⟨g, 0, none⟩), .int .i64 (i : Int), .slice A b.length c] w (WritePost w B g r (put D i b)) := by
  obtain ⟨p, hg, hcp⟩ := h.blk
  rw [hcut] at hcp
  obtain ⟨q, rfl, hBq, hqg, hqr, hq, ha0, ha63, hk0, hk64⟩ := hcp
  have HQ := Lib.hid hq
  obtain ⟨kn, rfl⟩ := Int.eq_ofNat_of_zero_le hk0
  have hkn : kn ≤ 64 := by omega
  clear hq ha0 ha63 hk0 hk64
  have hc0 : w.cell? ⟨g, 0, none⟩ = some (.slice (some ⟨r, 0, none⟩) D.n D.n) := (blk_cell hg 0).trans rfl
  have hc2 : w.cell? ⟨g, 2, none⟩ = some (.bool false) := by rw [← hd]; exact (blk_cell hg 2).trans rfl
  have hal := sliceAt_all (P := Try.prog) 52 5 64 Try.underlying52 (by kernel_rfl)
  have hz := zero_52
  have h0 : ¬ ((i : Int) < 0) := by omega
  have h1 : ¬ ((D.n : Int) ≤ (i : Int)) := by omega
  have h2 : ¬ ((64 : Int) < (b.length : Int)) := by omega
  have HD := Lib.hid h
  have HG := Lib.hid hg
  have HR := Lib.hid hr
  have HCUT := Lib.hid hcut
  clear h hg hd hcut hr
  have hw1 : (w.alloc (.cells (Array.replicate 64 (Value.int .u8 0)) 52)).heap[w.heap.size]? = some (.cells ((List.replicate 64 (0 : Int)).map (Value.int .u8)).toArray 52 (0, 0)) := by
    rw [blk_new, List.map_replicate, List.toArray_replicate]
  have HS := Lib.hid hw1
  have HBL : Hid (Below w.heap.size w (w.alloc (.cells (Array.replicate 64 (Value.int .u8 0)) 52))) := Lib.hid (below_alloc (Below.refl _ _) _)
  have HC : Hid ((b.map (Value.int .u8)).length = Nat.min b.length 64 ∧ (0 < (b.map (Value.int .u8)).length → (some (⟨w.heap.size, 0, none⟩ : Addr)) = some ⟨w.heap.size, 0, none⟩ ∧ ∃ ad, A = some ad ∧ ∀ j v, (b.map (Value.int .u8))[j]? = some v → (w.alloc (.cells (Array.replicate 64 (Value.int .u8 0)) 52)).cell? (ad.add j) = some v) ∧ (0 + (b.map (Value.int .u8)).length ≤ ((List.replicate 64 (0 : Int)).map (Value.int .u8)).length) ∧ (∀ v ∈ b.map (Value.int .u8), v.oneCell' = true)) := Lib.hid (copy_in HR.out HBL.out hb)
  have HPL := Lib.hid (padOf_len hb)
  clear hw1
  go_enter Try.func18, Try.ntmps18
  go_wp2_with (first | ((with_reducible refine gate_dst (N := 28) rfl ?_); refine wpList_copy_splice rfl (.tmp 26) (.tmp 27) 29 29 rfl 5 Try.underlying29 (by kernel_rfl) (some ⟨w.heap.size, 0, none⟩) A 64 64 b.length c rfl rfl w.heap.size 0 ((List.replicate 64 (0 : Int)).map (Value.int .u8)) 52 HS.out (b.map (Value.int .u8)) HC.out.1 HC.out.2.1 HC.out.2.2.1 HC.out.2.2.2 w.heap.size w HBL.out (Nat.le_refl _) ?_; intro w2 hg2 hb2; have HB2 := Lib.hid hb2; have HS2 := Lib.hid hg2.out; clear hg2 hb2; have hd0 : w2.cell? ⟨g, 0, none⟩ = some (.slice (some ⟨r, 0, none⟩) D.n D.n) := (blk_cell (blk_below HG.out HB2.out) 0).trans rfl; have hd1 : w2.cell? ⟨g, 1, none⟩ = some (.pointer (some ⟨q, 0, none⟩)) := (blk_cell (blk_below HG.out HB2.out) 1).trans rfl; have hdq : w2.cell? ⟨q, 0, none⟩ = some (.int .i64 0) := (blk_cell (blk_below HQ.out HB2.out) 0).trans rfl))
  have hn0 : (i : Int) < (D.n : Int) := by omega
  have HS3 : Hid (w2.heap[w.heap.size]? = some (.cells ((padOf b).map (Value.int .u8)).toArray 52 (0, 0))) := Lib.hid (by rw [HS2.out]; unfold padOf; rw [map_splice])
  have HROW : Hid (w2.drew.heap[r]? = some (.cells (D.rows.map (Value.int .u8)).toArray 52 (0, 0))) := Lib.hid (show w2.heap[r]? = _ from blk_below HD.out.row HB2.out)
  have HST : Hid ((Try.prog.info? 52).map (·.size) = some ((padOf b).map (Value.int .u8)).toArray.size ∧ i * 64 + ((padOf b).map (Value.int .u8)).toArray.size ≤ (D.rows.map (Value.int .u8)).length ∧ ((padOf b).map (Value.int .u8)).toArray.all (·.oneCell') = true) := Lib.hid ⟨by rw [show (Try.prog.info? 52).map (·.size) = some 64 by kernel_rfl]; simp [HPL.out], by simp [HPL.out, HD.out.len]; omega, by simp [Value.oneCell']⟩
  have hsr : r < w.heap.size := blk_lt HD.out.row
  have hsg : g < w.heap.size := blk_lt HG.out
  have HG2 : Hid (w2.drew.heap[g]? = some (.cells (diskCells r D (some ⟨q, 0, none⟩)) 46 (0, 0))) := Lib.hid (show w2.heap[g]? = _ from blk_below HG.out HB2.out)
  have hsg2 : g < w2.drew.heap.size := blk_lt HG2.out
  have HQ2 : Hid (w2.drew.heap[q]? = some (.cells #[.int .i64 0, .int .i64 (kn : Int)] 54 (0, 0))) := Lib.hid (show w2.heap[q]? = _ from blk_below HQ.out HB2.out)
  have hsq2 : q < w2.drew.heap.size := blk_lt HQ2.out
  have HS4 : Hid (w2.drew.heap[w.heap.size]? = some (.cells ((padOf b).map (Value.int .u8)).toArray 52 (0, 0))) := Lib.hid HS3.out
  have hdk : w2.cell? ⟨q, 1, none⟩ = some (.int .i64 (kn : Int)) := (blk_cell (blk_below HQ.out HB2.out) 1).trans rfl
  have hch := sliceAt_h (P := Try.prog) 52 5 64 Try.underlying52 (by kernel_rfl) ⟨r, i * 64, none⟩ kn hkn
  have hlc : (((padOf b).take kn).map (Value.int .u8)).length = kn := by rw [List.length_map, List.length_take, HPL.out]; omega
  have HCS : Hid ((((padOf b).take kn).map (Value.int .u8)).length = kn ∧ kn = Nat.min 64 kn ∧ (0 < kn → (some (⟨r, i * 64, none⟩ : Addr)) = some ⟨r, i * 64, none⟩ ∧ ∃ ad, (some (⟨w.heap.size, 0, none⟩ : Addr)) = some ad ∧ ∀ j v, (((padOf b).take kn).map (Value.int .u8))[j]? = some v → w2.drew.cell? (ad.add j) = some v) ∧ (i * 64 + kn ≤ (D.rows.map (Value.int .u8)).length) ∧ (∀ v ∈ ((padOf b).take kn).map (Value.int .u8), v.oneCell' = true)) := by
    refine Lib.hid ⟨hlc, (Nat.min_eq_right hkn).symm, fun _ => ⟨rfl, ⟨_, rfl, fun j v hj => ?_⟩⟩, by rw [List.length_map, HD.out.len]; omega, fun v hv => by obtain ⟨x, _, rfl⟩ := List.mem_map.1 hv; rfl⟩
    have hjn : j < kn := by have := (List.getElem?_eq_some_iff.1 hj).1; omega
    rw [add_plain, blk_cell HS4.out, List.getElem?_toArray, ← hj, List.getElem?_map, List.getElem?_map, List.getElem?_take, if_pos hjn]
  clear hlc
  refine start_ (n := 16) (S := fun w' => w'.cell? ⟨g, 0, none⟩ = some (.slice (some ⟨r, 0, none⟩) D.n D.n) ∧ w'.cell? ⟨g, 1, none⟩ = some (.pointer (some ⟨q, 0, none⟩)) ∧ w'.cell? ⟨q, 1, none⟩ = some (.int .i64 (kn : Int))) (ds := []) #[false, false, false, false, false, false, false, false, false, false, false, false, false, false, false, false] (by kernel_rfl) rfl rfl ⟨hd0, hd1, hdk⟩ (fun hHeld => ?_)
  refine pure_ (i := 0) (N := some 44) (v := ?_) (a' := ?_) #[true, false, false, false, false, false, false, false, false, false, false, false, false, false, false, false] rfl rfl (by kernel_rfl) (fun _ _ _ h => h) (Or.inl ⟨by rfl, ?_⟩) ?_ ?_
  rotate_left
  · intro w'
    go_simp
    with_reducible rfl
  rotate_left
  · simp only [Act.put, List.setIfInBounds_toArray, List.set_cons_zero, List.set_cons_succ, i64_w, i32_w]
    rfl
  refine pure_ (i := 1) (N := some 45) (v := ?_) (a' := ?_) #[true, true, false, false, false, false, false, false, false, false, false, false, false, false, false, false] rfl rfl (by kernel_rfl) (fun _ _ _ h => h) (Or.inl ⟨by rfl, ?_⟩) ?_ ?_
  rotate_left
  · intro w'
    go_simp
    with_reducible rfl
  rotate_left
  · simp only [Act.put, List.setIfInBounds_toArray, List.set_cons_zero, List.set_cons_succ, i64_w, i32_w]
    rfl
  refine pure_ (i := 2) (N := some 46) (v := ?_) (a' := ?_) #[true, true, true, false, false, false, false, false, false, false, false, false, false, false, false, false] rfl rfl (by kernel_rfl) (fun _ _ _ h => h) (Or.inl ⟨by rfl, ?_⟩) ?_ ?_
  rotate_left
  · intro w'
    go_simp
    with_reducible rfl
  rotate_left
  · simp only [Act.put, List.setIfInBounds_toArray, List.set_cons_zero, List.set_cons_succ, i64_w, i32_w]
    rfl
  refine pure_ (i := 4) (N := some 48) (v := ?_) (a' := ?_) #[true, true, true, false, true, false, false, false, false, false, false, false, false, false, false, false] rfl rfl (by kernel_rfl) (fun _ _ _ h => h) (Or.inl ⟨by rfl, ?_⟩) ?_ ?_
  rotate_left
  · intro w'
    go_simp
    with_reducible rfl
  rotate_left
  · simp only [Act.put, List.setIfInBounds_toArray, List.set_cons_zero, List.set_cons_succ, i64_w, i32_w]
    rfl
  refine pure_ (i := 6) (N := some 50) (v := ?_) (a' := ?_) #[true, true, true, false, true, false, true, false, false, false, false, false, false, false, false, false] rfl rfl (by kernel_rfl) (fun _ _ _ h => h) (Or.inl ⟨by rfl, ?_⟩) ?_ ?_
  rotate_left
  · intro w'
    go_simp
    with_reducible rfl
  rotate_left
  · simp only [Act.put, List.setIfInBounds_toArray, List.set_cons_zero, List.set_cons_succ, i64_w, i32_w]
    rfl
  refine pure_ (i := 7) (N := some 51) (v := ?_) (a' := ?_) #[true, true, true, false, true, false, true, true, false, false, false, false, false, false, false, false] rfl rfl (by kernel_rfl) (fun _ _ _ h => h) (Or.inl ⟨by rfl, ?_⟩) ?_ ?_
  rotate_left
  · intro w'
    go_simp
    with_reducible rfl
  rotate_left
  · simp only [Act.put, List.setIfInBounds_toArray, List.set_cons_zero, List.set_cons_succ, i64_w, i32_w]
    rfl
  refine pure_ (i := 8) (N := some 52) (v := ?_) (a' := ?_) #[true, true, true, false, true, false, true, true, true, false, false, false, false, false, false, false] rfl rfl (by kernel_rfl) (fun _ _ _ h => h) (Or.inl ⟨by rfl, ?_⟩) ?_ ?_
  rotate_left
  · intro w'
    go_simp
    with_reducible rfl
  rotate_left
  · simp only [Act.put, List.setIfInBounds_toArray, List.set_cons_zero, List.set_cons_succ, i64_w, i32_w]
    rfl
  refine pure_ (i := 14) (N := some 58) (v := ?_) (a' := ?_) #[true, true, true, false, true, false, true, true, true, false, false, false, false, false, true, false] rfl rfl (by kernel_rfl) (fun _ _ _ h => h) (Or.inl ⟨by rfl, ?_⟩) ?_ ?_
  rotate_left
  · intro w'
    go_simp
    with_reducible rfl
  rotate_left
  · simp only [Act.put, List.setIfInBounds_toArray, List.set_cons_zero, List.set_cons_succ, i64_w, i32_w]
    rfl
  refine take_ (i := 3) (N := some 47) (v := ?_) (a' := ?_) #[true, true, true, true, true, false, true, true, true, false, false, false, false, false, true, false] rfl rfl (by kernel_rfl) (fun _ _ _ h => h) (Or.inl ⟨by rfl, ?_⟩) hHeld ?_ ?_
  rotate_left
  · rintro w' ⟨s0, s1, s2⟩
    go_simp
    with_reducible rfl
  rotate_left
  · simp only [Act.put, List.setIfInBounds_toArray, List.set_cons_zero, List.set_cons_succ, i64_w, i32_w]
    rfl
  refine pure_ (i := 5) (N := some 49) (v := ?_) (a' := ?_) #[true, true, true, true, true, true, true, true, true, false, false, false, false, false, true, false] rfl rfl (by kernel_rfl) (fun _ _ _ h => h) (Or.inl ⟨by rfl, ?_⟩) ?_ ?_
  rotate_left
  · intro w'
    go_simp
    with_reducible rfl
  rotate_left
  · simp only [Act.put, List.setIfInBounds_toArray, List.set_cons_zero, List.set_cons_succ, i64_w, i32_w]
    rfl
  refine take_ (i := 9) (N := some 53) (v := ?_) (a' := ?_) #[true, true, true, true, true, true, true, true, true, true, false, false, false, false, true, false] rfl rfl (by kernel_rfl) (fun _ _ _ h => h) (Or.inl ⟨by rfl, ?_⟩) hHeld ?_ ?_
  rotate_left
  · rintro w' ⟨s0, s1, s2⟩
    go_simp
    with_reducible rfl
  rotate_left
  · simp only [Act.put, List.setIfInBounds_toArray, List.set_cons_zero, List.set_cons_succ, i64_w, i32_w]
    rfl
  refine pure_ (i := 10) (N := some 54) (v := ?_) (a' := ?_) #[true, true, true, true, true, true, true, true, true, true, true, false, false, false, true, false] rfl rfl (by kernel_rfl) (fun _ _ _ h => h) (Or.inl ⟨by rfl, ?_⟩) ?_ ?_
  rotate_left
  · intro w'
    go_simp
    with_reducible rfl
  rotate_left
  · simp only [Act.put, List.setIfInBounds_toArray, List.set_cons_zero, List.set_cons_succ, i64_w, i32_w]
    rfl
  refine pure_ (i := 11) (N := some 55) (v := ?_) (a' := ?_) #[true, true, true, true, true, true, true, true, true, true, true, true, false, false, true, false] rfl rfl (by kernel_rfl) (fun _ _ _ h => h) (Or.inl ⟨by rfl, ?_⟩) ?_ ?_
  rotate_left
  · intro w'
    go_simp
    with_reducible rfl
  rotate_left
  · simp only [Act.put, List.setIfInBounds_toArray, List.set_cons_zero, List.set_cons_succ, i64_w, i32_w]
    rfl
  refine take_ (i := 12) (N := some 56) (v := ?_) (a' := ?_) #[true, true, true, true, true, true, true, true, true, true, true, true, true, false, true, false] rfl rfl (by kernel_rfl) (fun _ _ _ h => h) (Or.inl ⟨by rfl, ?_⟩) hHeld ?_ ?_
  rotate_left
  · rintro w' ⟨s0, s1, s2⟩
    go_simp
    with_reducible rfl
  rotate_left
  · simp only [Act.put, List.setIfInBounds_toArray, List.set_cons_zero, List.set_cons_succ, i64_w, i32_w]
    rfl
  refine pure_ (i := 13) (N := some 57) (v := ?_) (a' := ?_) #[true, true, true, true, true, true, true, true, true, true, true, true, true, true, true, false] rfl rfl (by kernel_rfl) (fun _ _ _ h => h) (Or.inl ⟨by rfl, ?_⟩) ?_ ?_
  rotate_left
  · intro w'
    go_simp
    with_reducible rfl
  rotate_left
  · simp only [Act.put, List.setIfInBounds_toArray, List.set_cons_zero, List.set_cons_succ, i64_w, i32_w]
    rfl
  refine one_ (i := 15) (N := some 59) #[true, true, true, true, true, true, true, true, true, true, true, true, true, true, true, true] rfl rfl (by kernel_rfl) (by decide) (fun K hK => ?_)
  refine step_copy_keep rfl (.tmp 57) (.tmp 58) 29 29 rfl 5 Try.underlying29 (by kernel_rfl) (some ⟨r, i * 64, none⟩) (some ⟨w.heap.size, 0, none⟩) kn 64 64 64 (by rfl) (by rfl) r (i * 64) (D.rows.map (Value.int .u8)) 52 HROW.out kn HCS.out.1 HCS.out.2.1 HCS.out.2.2.1 HCS.out.2.2.2.1 HCS.out.2.2.2.2 ?_
  intro w3 hg3 hk3
  have HQ3 := Lib.hid ((hk3.block q hsq2 hqr).trans HQ2.out)
  have HG3 := Lib.hid ((hk3.block g hsg2 HD.out.ne).trans HG2.out)
  have HR3 := Lib.hid hg3
  have HK3 := Lib.hid hk3.drew
  have hx0 : w3.cell? ⟨g, 0, none⟩ = some (.slice (some ⟨r, 0, none⟩) D.n D.n) := (blk_cell HG3.out 0).trans rfl
  have hx1 : w3.cell? ⟨g, 1, none⟩ = some (.pointer (some ⟨q, 0, none⟩)) := (blk_cell HG3.out 1).trans rfl
  have hx2 : w3.cell? ⟨q, 1, none⟩ = some (.int .i64 (kn : Int)) := (blk_cell HQ3.out 1).trans rfl
  clear hg3 hk3
  refine hK.out _ _ ⟨hx0, hx1, hx2⟩ (fun hHeld => ?_)
  clear hK K
  refine norm_ (a' := ?_) ?_ ?_
  rotate_left
  · show Act.put _ (some 59) _ = _
    simp only [Act.put, List.setIfInBounds_toArray, List.set_cons_zero, List.set_cons_succ, i64_w, i32_w]
    rfl
  refine done_ (by kernel_rfl) ?_
  have hy2 : w3.cell? ⟨g, 2, none⟩ = some (.bool D.down) := (blk_cell HG3.out 2).trans rfl
  have hyf1 := blk_frozen HG3.out 1
  have hyf2 := blk_frozen HG3.out 2
  clear hd0 hd1 hdq hdk hc0 hc2
  go_wp2_with fail
  go_ret
  have hk4 : Kp w3 ((w3.setCell ⟨g, 2, none⟩ (.bool true)).setCell ⟨g, 1, none⟩ (.pointer none)) g := ((Kp.refl w3 g).set 2 _).set 1 _
  have hB2 : Below B w w2 := below_then (Below.refl B w) HD.out.lt HB2.out
  have hB3 : Below B w w3 := hB2.trans (HK3.out.below HD.out.br (Nat.le_trans HD.out.lt hB2.size))
  have e : put D i b = (101, { D with rows := splice D.rows (i * 64) ((padOf b).take kn), down := true, cut := none }) := by
    unfold put
    rw [HCUT.out]
    show (if (0 : Int) = 0 then _ else _) = _
    rw [if_pos rfl, Int.toNat_natCast]
  rw [e]
  have hr3 := blk_lt HR3.out
  refine ⟨rfl, ⟨⟨none, blk_put (blk_put HG3.out 2 _ rfl) 1 _ rfl, rfl⟩, ?_, ?_, bytes_splice HD.out.byt (fun x hx => bytes_pad hbb x (List.mem_of_mem_take hx)), HD.out.ne, HD.out.bg, HD.out.br, HD.out.big⟩, hB3.trans (hk4.below HD.out.bg (Nat.le_trans HD.out.lt hB3.size)), (KeepT.of_below HB2.out).trans ((HK3.out.kt HROW.out (by decide)).trans (hk4.kt HG3.out (by decide)))⟩
  · rw [hk4.block r hr3 (Ne.symm HD.out.ne), HR3.out, ← map_splice]
  · show (splice D.rows (i * 64) ((padOf b).take kn)).length = 64 * D.n
    rw [length_splice _ _ _ (by rw [List.length_take, HPL.out, HD.out.len]; omega), HD.out.len]
theorem write_any (B g r : Nat) (D : Dk) (i : Int) (A : Option Addr) (c : Nat) (b : List Int) (w : World) (h : IsDisk w B g r D) (hbb : Bytes b) (hr : Kd.C (Kd.int .u8) w A b.length b) (x : Int × Dk) (hx : writeOf D i b = x) :
    Calls Try.prog 18 #[.pointer (some ⟨g, 0, none⟩), .int .i64 i, .slice A b.length c] w (WritePost w B g r x) := by
  by_cases hn : D.down = true ∨ i < 0 ∨ (D.n : Int) ≤ i ∨ 64 < b.length
  · exact refuse_any B g r D i A c b w h hn x hx
  have h1 : ¬ D.down = true := fun e => hn (Or.inl e)
  have h2 : ¬ i < 0 := fun e => hn (Or.inr (Or.inl e))
  have h3 : ¬ (D.n : Int) ≤ i := fun e => hn (Or.inr (Or.inr (Or.inl e)))
  have h4 : ¬ 64 < b.length := fun e => hn (Or.inr (Or.inr (Or.inr e)))
  unfold writeOf at hx
  rw [if_neg h1, if_neg h2, if_neg h3, if_neg h4] at hx
  subst hx
  obtain ⟨j, rfl⟩ := Int.eq_ofNat_of_zero_le (show 0 ≤ i by omega)
  rw [Int.toNat_natCast]
  have hd : D.down = false := by simpa using h1
  have hj : j < D.n := by omega
  have hb : b.length ≤ 64 := by omega
  cases hc : D.cut with
  | none => exact write_none B g r D j A c b w h hd hj hb hbb hr hc
  | some p =>
    obtain ⟨a, k⟩ := p
    by_cases ha : a = 0
    · subst ha; exact write_cut B g r D j A c b w h hd hj hb hbb hr k hc
    · exact write_some B g r D j A c b w h hd hj hb hbb hr a k ha hc
end Go.Proofs.Ytacpeilgjaodbaa
