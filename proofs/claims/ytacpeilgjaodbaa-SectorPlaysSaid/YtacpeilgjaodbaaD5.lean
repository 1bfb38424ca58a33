/- The disk's Write. -/
import Derived.Test.YtacpeilgjaodbaaD4
namespace Go.Proofs.Ytacpeilgjaodbaa
open Go.RowKit Go.Proofs.YtacpeilgjaodbaaW.PrintWords Go.Proofs.YtacpeilgjaodbaaW.PrintLast Go.Proofs.YtacpeilgjaodbaaW.PrintMore
set_option linter.unusedVariables false
set_option linter.unusedSimpArgs false
/-- Bytes as a whole sector. -/
def padOf (b : List Int) : List Int := splice (List.replicate 64 0) 0 b
theorem padOf_len {b : List Int} (h : b.length ≤ 64) : (padOf b).length = 64 := by unfold padOf; rw [length_splice _ _ _ (by rw [List.length_replicate]; omega), List.length_replicate]
theorem bytes_splice {l b : List Int} {o : Nat} (hl : Bytes l) (hb : Bytes b) : Bytes (splice l o b) := by
  intro x hx
  unfold splice at hx
  rcases List.mem_append.1 hx with h | h
  · exact hl x (List.mem_of_mem_take h)
  · rcases List.mem_append.1 h with h | h
    · exact hb x h
    · exact hl x (List.mem_of_mem_drop h)
theorem bytes_pad {b : List Int} (hb : Bytes b) : Bytes (padOf b) := bytes_splice (fun x hx => by have := (List.mem_replicate.1 hx).2; omega) hb
theorem map_splice {α β : Type} (f : α → β) (l : List α) (o : Nat) (b : List α) : (splice l o b).map f = splice (l.map f) o (b.map f) := by unfold splice; simp
/-- What a write that is not refused comes to. -/
def put (D : Dk) (i : Nat) (b : List Int) : Int × Dk :=
  match D.cut with
  | none => (0, { D with rows := splice D.rows (i * 64) (padOf b), wrote := wrap64 (D.wrote + 1) })
  | some (a, k) => if a = 0 then (101, { D with rows := splice D.rows (i * 64) ((padOf b).take k.toNat), down := true, cut := none }) else (0, { D with rows := splice D.rows (i * 64) (padOf b), wrote := wrap64 (D.wrote + 1), cut := some (a - 1, k) })
def writeOf (D : Dk) (i : Int) (b : List Int) : Int × Dk := if D.down then (101, D) else if i < 0 then (1, D) else if (D.n : Int) ≤ i then (1, D) else if 64 < b.length then (1, D) else put D i.toNat b
def WritePost (w : World) (B g r : Nat) (x : Int × Dk) (e : Ending) (w' : World) : Prop := e = .returned (.int .i64 x.1) ∧ IsDisk w' B g r x.2 ∧ Below B w w' ∧ KeepT [46, 52, 54] w w'
theorem zero_52 (w : World) : (zeroValue 52).run Try.prog w = .ok (.agg (Array.replicate 64 (Value.int .u8 0))) w := by kernel_rfl
set_option maxRecDepth 100000 in
set_option maxHeartbeats 4000000 in
theorem refuse_any (B g r : Nat) (D : Dk) (i : Int) (A : Option Addr) (c : Nat) (b : List Int) (w : World) (h : IsDisk w B g r D) (hn : D.down = true ∨ i < 0 ∨ (D.n : Int) ≤ i ∨ 64 < b.length) (x : Int × Dk) (hx : writeOf D i b = x) :
    Calls Try.prog 18 #[.pointer (some ⟨g, 0, none⟩), .int .i64 i, .slice A b.length c] w (WritePost w B g r x) := by
  obtain ⟨p, hg, _⟩ := h.blk
  have hc0 : w.cell? ⟨g, 0, none⟩ = some (.slice (some ⟨r, 0, none⟩) D.n D.n) := (blk_cell hg 0).trans rfl
  have hc2 : w.cell? ⟨g, 2, none⟩ = some (.bool D.down) := (blk_cell hg 2).trans rfl
  have HD := Lib.hid h
  unfold writeOf at hx
  by_cases hd : D.down = true
  · rw [if_pos hd] at hx
    subst hx
    rw [hd] at hc2
    clear hg h hd hn
    go_enter Try.func18, Try.ntmps18
    go_wp2_with fail
    go_ret
    exact ⟨rfl, HD.out, Below.refl _ _, KeepT.refl _ _⟩
  rw [if_neg hd] at hx
  have hdf : D.down = false := by simpa using hd
  rw [hdf] at hc2
  by_cases h0 : i < 0
  · rw [if_pos h0] at hx
    subst hx
    clear hg h hd hdf hn
    go_enter Try.func18, Try.ntmps18
    go_wp2_with fail
    go_ret
    exact ⟨rfl, HD.out, Below.refl _ _, KeepT.refl _ _⟩
  rw [if_neg h0] at hx
  by_cases h1 : (D.n : Int) ≤ i
  · rw [if_pos h1] at hx
    subst hx
    clear hg h hd hdf hn
    go_enter Try.func18, Try.ntmps18
    go_wp2_with fail
    go_ret
    exact ⟨rfl, HD.out, Below.refl _ _, KeepT.refl _ _⟩
  rw [if_neg h1] at hx
  have h6 : 64 < b.length := by rcases hn with h | h | h | h <;> first | exact absurd h hd | exact absurd h h0 | exact absurd h h1 | exact h
  rw [if_pos h6] at hx
  subst hx
  have h6i : (64 : Int) < b.length := by omega
  clear hg h hd hdf hn h6
  go_enter Try.func18, Try.ntmps18
  go_wp2_with fail
  go_ret
  exact ⟨rfl, HD.out, Below.refl _ _, KeepT.refl _ _⟩
theorem step_store_at {P : Program} {ops : Array Oper} {o : Oper} {a : Act} {w : World} {K : Act → World → Prop} {Q : Exit → Act → World → Prop} {E : Prop} (hgd : o.guard = none) (ty : TypeId) (x y : Operand) (ho : o.op = .store ty x y)
    (g off : Nat) (cells : Array Value) (hx : a.eval x = .pointer (some ⟨g, off, none⟩)) (hy : a.eval y = .agg cells)
    (t : TypeId) (cur : List Value) (hg : w.heap[g]? = some (.cells cur.toArray t (0, 0))) (hi : (P.info? ty).map (·.size) = some cells.size)
    (hfit : off + cells.size ≤ cur.length) (h1 : cells.all (·.oneCell') = true)
    (h : K (a.put o.dst undef) (w.setRow g (splice cur off cells.toList).toArray)) : if Region.wanted o (yielded ops a.tmps) = true then Oper.wp P o a w K Q else E := by
  have hw : Region.wanted o (yielded ops a.tmps) = true := by simp [Region.wanted, hgd]
  rw [if_pos hw]
  exact wp_store_at ty x y ho g off cells hx hy t cur hg hi hfit h1 h
theorem step_store_keep {P : Program} {ops : Array Oper} {o : Oper} {a : Act} {w : World} {K : Act → World → Prop} {Q : Exit → Act → World → Prop} {E : Prop} (hgd : o.guard = none) (ty : TypeId) (x y : Operand) (ho : o.op = .store ty x y)
    (g off : Nat) (cells : Array Value) (hx : a.eval x = .pointer (some ⟨g, off, none⟩)) (hy : a.eval y = .agg cells)
    (t : TypeId) (cur : List Value) (hg : w.heap[g]? = some (.cells cur.toArray t (0, 0))) (hi : (P.info? ty).map (·.size) = some cells.size)
    (hfit : off + cells.size ≤ cur.length) (h1 : cells.all (·.oneCell') = true)
    (h : ∀ w', w'.heap[g]? = some (.cells (splice cur off cells.toList).toArray t (0, 0)) → Kp w w' g → K (a.put o.dst undef) w') : if Region.wanted o (yielded ops a.tmps) = true then Oper.wp P o a w K Q else E :=
  step_store_at hgd ty x y ho g off cells hx hy t cur hg hi hfit h1 (h _ (setRow_heap w g _ _ t _ hg) ((Kp.refl w g).row _))
theorem step_load_at {P : Program} {ops : Array Oper} {o : Oper} {a : Act} {w : World} {K : Act → World → Prop} {Q : Exit → Act → World → Prop} {E : Prop} (hgd : o.guard = none) (ty : TypeId) (x : Operand) (ho : o.op = .load ty x)
    (g : Nat) (hx : a.eval x = .pointer (some ⟨g, 0, none⟩)) (t : TypeId) (cs : Array Value) (fr : Nat × Nat) (d : TypeDesc) (hg : w.heap[g]? = some (.cells cs t fr))
    (hu : P.underlying ty = some d) (hd : (match d with | .struct _ | .array _ _ => true | _ => false) = true) (hi : (P.info? ty).map (·.size) = some cs.size)
    (h : K (a.put o.dst (.agg cs)) w) : if Region.wanted o (yielded ops a.tmps) = true then Oper.wp P o a w K Q else E := by
  have hw : Region.wanted o (yielded ops a.tmps) = true := by simp [Region.wanted, hgd]
  rw [if_pos hw]
  exact wp_load_row ty x ho g hx t cs fr d hg hu hd hi h
theorem copy_in {w w1 : World} {A : Option Addr} {b : List Int} (hr : Kd.C (Kd.int .u8) w A b.length b) (hb1 : Below w.heap.size w w1) (hb : b.length ≤ 64) :
    (b.map (Value.int .u8)).length = Nat.min b.length 64 ∧ (0 < (b.map (Value.int .u8)).length → (some (⟨w.heap.size, 0, none⟩ : Addr)) = some ⟨w.heap.size, 0, none⟩ ∧ ∃ ad, A = some ad ∧ ∀ j v, (b.map (Value.int .u8))[j]? = some v → w1.cell? (ad.add j) = some v) ∧ (0 + (b.map (Value.int .u8)).length ≤ ((List.replicate 64 (0 : Int)).map (Value.int .u8)).length) ∧ (∀ v ∈ b.map (Value.int .u8), v.oneCell' = true) := by
  refine ⟨by rw [List.length_map]; exact (Nat.min_eq_left hb).symm, fun hp => ⟨rfl, ?_⟩, by simp; omega, fun v hv => by obtain ⟨x, _, rfl⟩ := List.mem_map.1 hv; rfl⟩
  rw [List.length_map] at hp
  obtain ⟨ad, hA, _⟩ := Kd.at_int hr 0 (by omega) (by omega)
  refine ⟨ad, hA, fun j v hj => ?_⟩
  have hjn : j < b.length := by have := (List.getElem?_eq_some_iff.1 hj).1; rwa [List.length_map] at this
  obtain ⟨ad', hA', hx⟩ := Kd.at_int hr (j : Int) (by omega) (by omega)
  obtain rfl : ad = ad' := by rw [hA] at hA'; injection hA'
  rw [Int.toNat_natCast] at hx
  have hx2 := (hb1.cell (World.block_lt_of_cell? w _ hx)).trans hx
  rw [hx2, ← hj, List.getElem?_map, List.getElem?_eq_getElem hjn]
  show some (Value.int .u8 (rd b (j : Int))) = some (Value.int .u8 b[j])
  congr 2
  unfold rd
  simp [List.getD_eq_getElem?_getD, List.getElem?_eq_getElem hjn]
set_option maxRecDepth 100000 in
set_option maxHeartbeats 4000000 in
theorem write_none (B g r : Nat) (D : Dk) (i : Nat) (A : Option Addr) (c : Nat) (b : List Int) (w : World) (h : IsDisk w B g r D) (hd : D.down = false) (hi : i < D.n) (hb : b.length ≤ 64) (hbb : Bytes b) (hr : Kd.C (Kd.int .u8) w A b.length b) (hcut : D.cut = none) :
    Calls Try.prog 18 #[.pointer (some ⟨g, 0, none⟩), .int .i64 (i : Int), .slice A b.length c] w (WritePost w B g r (put D i b)) := by
  obtain ⟨p, hg, hcp⟩ := h.blk
  rw [hcut] at hcp
  obtain rfl : p = none := hcp
  have hc0 : w.cell? ⟨g, 0, none⟩ = some (.slice (some ⟨r, 0, none⟩) D.n D.n) := (blk_cell hg 0).trans rfl
  have hc2 : w.cell? ⟨g, 2, none⟩ = some (.bool false) := by rw [← hd]; exact (blk_cell hg 2).trans rfl
  have hal := sliceAt_all (P := Try.prog) 52 5 64 Try.underlying52 (by kernel_rfl)
  have hz := zero_52
  have h0 : ¬ ((i : Int) < 0) := by omega
  have h1 : ¬ ((D.n : Int) ≤ (i : Int)) := by omega
  have h2 : ¬ ((64 : Int) < (b.length : Int)) := by omega
  have HD := Lib.hid h
  have HG := Lib.hid hg
  have HR := Lib.hid hr
  have HCUT := Lib.hid hcut
  clear h hg hd hcut hr
  have hw1 : (w.alloc (.cells (Array.replicate 64 (Value.int .u8 0)) 52)).heap[w.heap.size]? = some (.cells ((List.replicate 64 (0 : Int)).map (Value.int .u8)).toArray 52 (0, 0)) := by
    rw [blk_new, List.map_replicate, List.toArray_replicate]
  have HS := Lib.hid hw1
  have HBL : Hid (Below w.heap.size w (w.alloc (.cells (Array.replicate 64 (Value.int .u8 0)) 52))) := Lib.hid (below_alloc (Below.refl _ _) _)
  have HC : Hid ((b.map (Value.int .u8)).length = Nat.min b.length 64 ∧ (0 < (b.map (Value.int .u8)).length → (some (⟨w.heap.size, 0, none⟩ : Addr)) = some ⟨w.heap.size, 0, none⟩ ∧ ∃ ad, A = some ad ∧ ∀ j v, (b.map (Value.int .u8))[j]? = some v → (w.alloc (.cells (Array.replicate 64 (Value.int .u8 0)) 52)).cell? (ad.add j) = some v) ∧ (0 + (b.map (Value.int .u8)).length ≤ ((List.replicate 64 (0 : Int)).map (Value.int .u8)).length) ∧ (∀ v ∈ b.map (Value.int .u8), v.oneCell' = true)) := Lib.hid (copy_in HR.out HBL.out hb)
  have HPL := Lib.hid (padOf_len hb)
  clear hw1
  go_enter Try.func18, Try.ntmps18
  go_wp2_with (first | ((with_reducible refine gate_dst (N := 28) rfl ?_); refine wpList_copy_splice rfl (.tmp 26) (.tmp 27) 29 29 rfl 5 Try.underlying29 (by kernel_rfl) (some ⟨w.heap.size, 0, none⟩) A 64 64 b.length c rfl rfl w.heap.size 0 ((List.replicate 64 (0 : Int)).map (Value.int .u8)) 52 HS.out (b.map (Value.int .u8)) HC.out.1 HC.out.2.1 HC.out.2.2.1 HC.out.2.2.2 w.heap.size w HBL.out (Nat.le_refl _) ?_; intro w2 hg2 hb2; have HB2 := Lib.hid hb2; have HS2 := Lib.hid hg2.out; clear hg2 hb2; have hd0 : w2.cell? ⟨g, 0, none⟩ = some (.slice (some ⟨r, 0, none⟩) D.n D.n) := (blk_cell (blk_below HG.out HB2.out) 0).trans rfl; have hd1 : w2.cell? ⟨g, 1, none⟩ = some (.pointer none) := (blk_cell (blk_below HG.out HB2.out) 1).trans rfl))
  have hn0 : (i : Int) < (D.n : Int) := by omega
  have HS3 : Hid (w2.heap[w.heap.size]? = some (.cells ((padOf b).map (Value.int .u8)).toArray 52 (0, 0))) := Lib.hid (by rw [HS2.out]; unfold padOf; rw [map_splice])
  have HROW : Hid (w2.drew.heap[r]? = some (.cells (D.rows.map (Value.int .u8)).toArray 52 (0, 0))) := Lib.hid (show w2.heap[r]? = _ from blk_below HD.out.row HB2.out)
  have HST : Hid ((Try.prog.info? 52).map (·.size) = some ((padOf b).map (Value.int .u8)).toArray.size ∧ i * 64 + ((padOf b).map (Value.int .u8)).toArray.size ≤ (D.rows.map (Value.int .u8)).length ∧ ((padOf b).map (Value.int .u8)).toArray.all (·.oneCell') = true) := Lib.hid ⟨by rw [show (Try.prog.info? 52).map (·.size) = some 64 by kernel_rfl]; simp [HPL.out], by simp [HPL.out, HD.out.len]; omega, by simp [Value.oneCell']⟩
  have hsr : r < w.heap.size := blk_lt HD.out.row
  have hsg : g < w.heap.size := blk_lt HG.out
  have HG2 : Hid (w2.drew.heap[g]? = some (.cells (diskCells r D none) 46 (0, 0))) := Lib.hid (show w2.heap[g]? = _ from blk_below HG.out HB2.out)
  have hsg2 : g < w2.drew.heap.size := blk_lt HG2.out
  have HS4 : Hid (w2.drew.heap[w.heap.size]? = some (.cells ((padOf b).map (Value.int .u8)).toArray 52 (0, 0))) := Lib.hid HS3.out
  refine start_ (n := 8) (S := fun w' => w'.cell? ⟨g, 0, none⟩ = some (.slice (some ⟨r, 0, none⟩) D.n D.n)) (ds := []) #[false, false, false, false, false, false, false, false] (by kernel_rfl) rfl rfl (hd0) (fun hHeld => ?_)
  refine pure_ (i := 0) (N := some 66) (v := ?_) (a' := ?_) #[true, false, false, false, false, false, false, false] rfl rfl (by kernel_rfl) (fun _ _ _ h => h) (Or.inl ⟨by rfl, ?_⟩) ?_ ?_
  rotate_left
  · intro w'
    go_simp
    with_reducible rfl
  rotate_left
  · simp only [Act.put, List.setIfInBounds_toArray, List.set_cons_zero, List.set_cons_succ, i64_w, i32_w]
    rfl
  refine pure_ (i := 1) (N := some 67) (v := ?_) (a' := ?_) #[true, true, false, false, false, false, false, false] rfl rfl (by kernel_rfl) (fun _ _ _ h => h) (Or.inl ⟨by rfl, ?_⟩) ?_ ?_
  rotate_left
  · intro w'
    go_simp
    with_reducible rfl
  rotate_left
  · simp only [Act.put, List.setIfInBounds_toArray, List.set_cons_zero, List.set_cons_succ, i64_w, i32_w]
    rfl
  refine pure_ (i := 2) (N := some 68) (v := ?_) (a' := ?_) #[true, true, true, false, false, false, false, false] rfl rfl (by kernel_rfl) (fun _ _ _ h => h) (Or.inl ⟨by rfl, ?_⟩) ?_ ?_
  rotate_left
  · intro w'
    go_simp
    with_reducible rfl
  rotate_left
  · simp only [Act.put, List.setIfInBounds_toArray, List.set_cons_zero, List.set_cons_succ, i64_w, i32_w]
    rfl
  refine pure_ (i := 4) (N := some 70) (v := ?_) (a' := ?_) #[true, true, true, false, true, false, false, false] rfl rfl (by kernel_rfl) (fun _ _ _ h => h) (Or.inl ⟨by rfl, ?_⟩) ?_ ?_
  rotate_left
  · intro w'
    go_simp
    with_reducible rfl
  rotate_left
  · simp only [Act.put, List.setIfInBounds_toArray, List.set_cons_zero, List.set_cons_succ, i64_w, i32_w]
    rfl
  refine take_ (i := 3) (N := some 69) (v := ?_) (a' := ?_) #[true, true, true, true, true, false, false, false] rfl rfl (by kernel_rfl) (fun _ _ _ h => h) (Or.inl ⟨by rfl, ?_⟩) hHeld ?_ ?_
  rotate_left
  · rintro w' s0
    go_simp
    with_reducible rfl
  rotate_left
  · simp only [Act.put, List.setIfInBounds_toArray, List.set_cons_zero, List.set_cons_succ, i64_w, i32_w]
    rfl
  refine one_ (i := 5) (N := some 71) #[true, true, true, true, true, true, false, false] rfl rfl (by kernel_rfl) (by decide) (fun K hK => ?_)
  refine step_load_at rfl 52 (.tmp 7) rfl w.heap.size rfl 52 ((padOf b).map (Value.int .u8)).toArray (0, 0) _ HS4.out Try.underlying52 rfl HST.out.1 ?_
  refine hK.out _ _ (hd0) (fun hHeld => ?_)
  clear hK K
  refine norm_ (a' := ?_) ?_ ?_
  rotate_left
  · show Act.put _ (some 71) _ = _
    simp only [Act.put, List.setIfInBounds_toArray, List.set_cons_zero, List.set_cons_succ, i64_w, i32_w]
    rfl
  refine pure_ (i := 6) (N := some 72) (v := ?_) (a' := ?_) #[true, true, true, true, true, true, true, false] rfl rfl (by kernel_rfl) (fun _ _ _ h => h) (Or.inl ⟨by rfl, ?_⟩) ?_ ?_
  rotate_left
  · intro w'
    go_simp
    with_reducible rfl
  rotate_left
  · simp only [Act.put, List.setIfInBounds_toArray, List.set_cons_zero, List.set_cons_succ, i64_w, i32_w]
    rfl
  refine one_ (i := 7) (N := none) #[true, true, true, true, true, true, true, true] rfl rfl (by kernel_rfl) (by decide) (fun K hK => ?_)
  refine step_store_keep rfl 52 (.tmp 72) (.tmp 71) rfl r (i * 64) ((padOf b).map (Value.int .u8)).toArray rfl rfl 52 (D.rows.map (Value.int .u8)) HROW.out HST.out.1 HST.out.2.1 HST.out.2.2 ?_
  intro w3 hg3 hk3
  have HG3 := Lib.hid ((hk3.block g hsg2 HD.out.ne).trans HG2.out)
  have HR3 := Lib.hid hg3
  have HK3 := Lib.hid hk3.drew
  have hx0 : w3.cell? ⟨g, 0, none⟩ = some (.slice (some ⟨r, 0, none⟩) D.n D.n) := (blk_cell HG3.out 0).trans rfl
  clear hg3 hk3
  refine hK.out _ _ (hx0) (fun hHeld => ?_)
  clear hK K
  refine done_ (by kernel_rfl) ?_
  have hy1 : w3.cell? ⟨g, 1, none⟩ = some (.pointer none) := (blk_cell HG3.out 1).trans rfl
  have hy3 : w3.cell? ⟨g, 3, none⟩ = some (.int .i64 D.wrote) := (blk_cell HG3.out 3).trans rfl
  have hyf := blk_frozen HG3.out 3
  go_wp2_with fail
  go_ret
  have hk4 : Kp w3 (w3.setCell ⟨g, 3, none⟩ (.int .i64 (wrap64 (D.wrote + 1)))) g := (Kp.refl w3 g).set 3 _
  have hB2 : Below B w w2 := below_then (Below.refl B w) HD.out.lt HB2.out
  have hB3 : Below B w w3 := hB2.trans (HK3.out.below HD.out.br (Nat.le_trans HD.out.lt hB2.size))
  have e : put D i b = (0, { D with rows := splice D.rows (i * 64) (padOf b), wrote := wrap64 (D.wrote + 1) }) := by unfold put; rw [HCUT.out]
  rw [e]
  have hr3 := blk_lt HR3.out
  refine ⟨rfl, ⟨⟨none, blk_put HG3.out 3 _ rfl, by show CutAt _ _ _ _ D.cut none; rw [HCUT.out]; rfl⟩, ?_, ?_, bytes_splice HD.out.byt (bytes_pad hbb), HD.out.ne, HD.out.bg, HD.out.br, HD.out.big⟩, hB3.trans (hk4.below HD.out.bg (Nat.le_trans HD.out.lt hB3.size)), (KeepT.of_below HB2.out).trans ((HK3.out.kt HROW.out (by decide)).trans (hk4.kt HG3.out (by decide)))⟩
  · rw [hk4.block r hr3 (Ne.symm HD.out.ne), HR3.out, ← map_splice]
  · show (splice D.rows (i * 64) (padOf b)).length = 64 * D.n
    rw [length_splice _ _ _ (by rw [HPL.out, HD.out.len]; omega), HD.out.len]
end Go.Proofs.Ytacpeilgjaodbaa
