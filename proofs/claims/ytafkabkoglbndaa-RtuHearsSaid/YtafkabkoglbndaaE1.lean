/- The ear: what each of its methods comes to. -/
import Derived.Test.YtafkabkoglbndaaCB1
import Derived.Test.YtafkabkoglbndaaReg
import Derived.Test.YtafkabkoglbndaaWMore
import Derived.Laws.CopyOwn
import Derived.Deep.RegionLaw
namespace Go.Proofs.Ytafkabkoglbndaa
open Go.RowKit Go.Proofs.YtafkabkoglbndaaW.PrintWords Go.Proofs.YtafkabkoglbndaaW.PrintLast Go.Proofs.YtafkabkoglbndaaW.PrintMore
set_option linter.unusedVariables false
set_option linter.unusedSimpArgs false
/-- One block may have changed, and there may be new ones. -/
structure Kp (w w' : World) (g : Nat) : Prop where
  os : w'.os = w.os
  tape : w'.tape = w.tape
  output : w'.output = w.output
  size : w.heap.size ≤ w'.heap.size
  block : ∀ k, k < w.heap.size → k ≠ g → w'.heap[k]? = w.heap[k]?
theorem Kp.refl (w : World) (g : Nat) : Kp w w g := ⟨rfl, rfl, rfl, Nat.le_refl _, fun _ _ _ => rfl⟩
theorem Kp.trans {w w1 w2 : World} {g : Nat} (h : Kp w w1 g) (k : Kp w1 w2 g) : Kp w w2 g := ⟨k.os.trans h.os, k.tape.trans h.tape, k.output.trans h.output, Nat.le_trans h.size k.size, fun j hj hg => (k.block j (Nat.lt_of_lt_of_le hj h.size) hg).trans (h.block j hj hg)⟩
theorem Kp.below {w w' : World} {g B : Nat} (h : Kp w w' g) (hg : B ≤ g) (hB : B ≤ w.heap.size) : Below B w w' := ⟨h.os, h.tape, h.output, h.size, fun k hk => h.block k (by omega) (by omega)⟩
theorem Kp.of_below {w w' : World} (h : Below w.heap.size w w') (g : Nat) : Kp w w' g := ⟨h.os, h.tape, h.output, h.size, fun k hk _ => h.block k hk⟩
theorem Kp.set {w w' : World} {g : Nat} (h : Kp w w' g) (i : Nat) (u : Value) : Kp w (w'.setCell ⟨g, i, none⟩ u) g := ⟨h.os, h.tape, h.output, by simpa [World.setCell] using h.size, fun k hk hg => (Below.heap_setCell w' _ u k hg).trans (h.block k hk hg)⟩
theorem Kp.drew {w w' : World} {g : Nat} (h : Kp w.drew w' g) : Kp w w' g := ⟨h.os, h.tape, h.output, h.size, h.block⟩
open Go.RowKit in
/-- A copy into a block, as a step of a region: the other blocks stay. -/
theorem step_copy_keep {P : Program} {ops : Array Oper} {o : Oper} {a : Act} {w : World} {K : Act → World → Prop} {Q : Exit → Act → World → Prop} {E : Prop} (hgd : o.guard = none) (d s : Operand) (dT sT : TypeId)
    (ho : o.op = .call { callee := .builtin .copy, args := #[d, s], argTypes := #[dT, sT] }) (elem : TypeId) (hu : P.underlying dT = some (.slice elem)) (hsz : (P.info? elem).map (·.size) = some 1)
    (dp sp : Option Addr) (dLen dCap sLen sCap : Nat) (hd : a.eval d = .slice dp dLen dCap) (hs : a.eval s = .slice sp sLen sCap)
    (g off : Nat) (cur : List Value) (t : TypeId) (hg : w.heap[g]? = some (.cells cur.toArray t (0, 0))) (n : Nat) {cs : List Value} (hcn : cs.length = n) (hn : n = Nat.min sLen dLen)
    (hpos : 0 < n → dp = some ⟨g, off, none⟩ ∧ ∃ ad, sp = some ad ∧ ∀ j v, cs[j]? = some v → w.cell? (ad.add j) = some v)
    (hfit : off + n ≤ cur.length) (h1 : ∀ v ∈ cs, v.oneCell' = true)
    (h : ∀ w', w'.heap[g]? = some (.cells (splice cur off cs).toArray t (0, 0)) → Kp w w' g → K (a.put o.dst (.int .i64 n)) w') :
    if Region.wanted o (yielded ops a.tmps) = true then Oper.wp P o a w K Q else E := by
  have hw : Region.wanted o (yielded ops a.tmps) = true := by simp [Region.wanted, hgd]
  subst hcn
  rw [if_pos hw]
  by_cases h0 : cs.length = 0
  · obtain rfl : cs = [] := List.eq_nil_of_length_eq_zero h0
    have hrun := run_copy_none (P := P) w dT sT o.type elem dp sp dLen dCap sLen sCap hu hsz (by simpa using hn.symm)
    unfold Oper.wp
    simp [execOp, ho, resolve, invoke, builtin, hd, hs, hrun, Result.andThen]
    exact h w (show _ = _ by simpa [splice] using hg) (Kp.refl _ _)
  · obtain ⟨rfl, ad, rfl, hsrc⟩ := hpos (by omega)
    have hrun := run_copy_row (P := P) w dT sT o.type elem g off dLen dCap ad sLen sCap cur.toArray t cs hu hsz hg hn hsrc (by simpa using hfit) h1
    unfold Oper.wp
    simp [execOp, ho, resolve, invoke, builtin, hd, hs, hrun, Result.andThen]
    exact h _ (show _ = _ by simpa [splice] using setRow_heap w g _ _ t _ hg) ⟨rfl, rfl, rfl, by simp [World.setRow], fun k _ hk => setRow_other w g k _ hk⟩
theorem sliceAt_l {P : Program} (t elem : TypeId) (n : Nat) (ht : P.underlying t = some (.array n elem)) (hs : (P.info? elem).map (·.size) = some 1) (a : Addr) (m : Nat) (hm : m ≤ n) (w : World) :
    (Instr.sliceAt t (.pointer (some a)) (some (.int .i64 m)) none none).run P w = .ok (.slice (some (if n = m then a else a.add m)) (n - m) (n - m)) w := by
  have hsz := run_sliceBound (P := P) w .i64 (m : Int) n .sliceB (by omega) (by omega)
  cases hq : P.info? elem with
  | none => simp [hq] at hs
  | some i =>
    have hi : i.size = 1 := by simpa [hq] using hs
    simp [Instr.sliceAt, run_underlying ht, Instr.sliceBounds, hsz, sizeOf, typeInfo, hq, hi, Instr.sureAddr]
theorem sliceAt_h {P : Program} (t elem : TypeId) (n : Nat) (ht : P.underlying t = some (.array n elem)) (hs : (P.info? elem).map (·.size) = some 1) (a : Addr) (m : Nat) (hm : m ≤ n) (w : World) :
    (Instr.sliceAt t (.pointer (some a)) none (some (.int .i64 m)) none).run P w = .ok (.slice (some a) m n) w := by
  have hsz := run_sliceBound (P := P) w .i64 (m : Int) n .sliceAlen (by omega) (by omega)
  have ha : a.add 0 = a := by unfold Addr.add; simp
  cases hq : P.info? elem with
  | none => simp [hq] at hs
  | some i =>
    have hi : i.size = 1 := by simpa [hq] using hs
    simp [Instr.sliceAt, run_underlying ht, Instr.sliceBounds, hsz, sizeOf, typeInfo, hq, hi, Instr.sureAddr, ha]
def earRow (row : List Int) (m : Nat) : List Value := row.map (Value.int .u8) ++ [.int .i64 m]
structure IsEar (w : World) (g : Nat) (row : List Int) (m : Nat) : Prop where
  blk : w.heap[g]? = some (.cells (earRow row m).toArray 50 (0, 0))
  len : row.length = 257
  byt : Bytes row
  most : m ≤ 257
/-- How many of b are heard. -/
def takes (m : Nat) (b : List Int) : Nat := min b.length (257 - m)
def hears (row : List Int) (m : Nat) (b : List Int) : List Int := row.take m ++ (b.take (takes m b) ++ row.drop (m + takes m b))
theorem takes_le (m : Nat) (b : List Int) (hm : m ≤ 257) : m + takes m b ≤ 257 := by unfold takes; omega
theorem takes_le' (m : Nat) (b : List Int) : takes m b ≤ b.length := by unfold takes; omega
theorem hears_length (row : List Int) (m : Nat) (b : List Int) (hl : row.length = 257) (hm : m ≤ 257) : (hears row m b).length = 257 := by
  have h1 := takes_le m b hm
  have h2 := takes_le' m b
  unfold hears
  rw [List.length_append, List.length_append, List.length_take, List.length_take, List.length_drop]; omega
theorem hears_take (row : List Int) (m : Nat) (b : List Int) (hl : row.length = 257) (hm : m ≤ 257) : (hears row m b).take (m + takes m b) = row.take m ++ b.take (takes m b) := by
  have h2 := takes_le' m b
  unfold hears
  rw [← List.append_assoc, List.take_left' (by rw [List.length_append, List.length_take, List.length_take]; omega)]
theorem earRow_hears (row : List Int) (m k : Nat) (b : List Int) (hl : row.length = 257) (hm : m ≤ 257) :
    ((splice (earRow row m) m ((b.take (takes m b)).map (Value.int .u8))).toArray.setIfInBounds 257 (.int .i64 (k : Nat))) = (earRow (hears row m b) k).toArray := by
  have h1 := takes_le m b hm
  have h2 := takes_le' m b
  have hlen : ((b.take (takes m b)).map (Value.int .u8)).length = takes m b := by rw [List.length_map, List.length_take]; omega
  unfold splice earRow
  rw [hlen, List.take_append_of_le_length (by simp; omega), List.drop_append_of_le_length (by simp; omega)]
  rw [List.setIfInBounds_toArray]
  congr 1
  have e : List.take m (row.map (Value.int .u8)) ++ ((b.take (takes m b)).map (Value.int .u8) ++ (List.drop (m + takes m b) (row.map (Value.int .u8)) ++ [Value.int .i64 m])) = (hears row m b).map (Value.int .u8) ++ [Value.int .i64 m] := by
    unfold hears; simp
  rw [e, List.set_append_right _ _ (by rw [List.length_map, hears_length row m b hl hm]; omega), List.length_map, hears_length row m b hl hm]
  rfl
theorem IsEar.cell {w : World} {g : Nat} {row : List Int} {m : Nat} (h : IsEar w g row m) (i : Nat) : w.cell? ⟨g, i, none⟩ = (earRow row m).toArray[i]? := blk_cell h.blk i
theorem earRow_last (row : List Int) (m : Nat) (hl : row.length = 257) : (earRow row m).toArray[257]? = some (.int .i64 m) := by
  unfold earRow; rw [List.getElem?_toArray, List.getElem?_append_right (by rw [List.length_map]; omega), List.length_map, hl]; rfl
theorem splice_last (row : List Int) (m : Nat) (cs : List Value) (hl : row.length = 257) (hf : m + cs.length ≤ 257) : (splice (earRow row m) m cs).toArray[257]? = some (.int .i64 m) := by
  unfold splice earRow
  rw [List.take_append_of_le_length (by simp; omega), List.drop_append_of_le_length (by simp; omega), List.getElem?_toArray, ← List.append_assoc, ← List.append_assoc, List.getElem?_append_right (by simp; omega)]
  simp
  rw [show 257 - (min m row.length + (cs.length + (row.length - (m + cs.length)))) = 0 by omega]; rfl
theorem bytes_hears {row b : List Int} (hr : Bytes row) (hb : Bytes b) (m : Nat) : Bytes (hears row m b) := by
  intro x hx
  unfold hears at hx
  rcases List.mem_append.1 hx with h | h
  · exact hr x (List.mem_of_mem_take h)
  rcases List.mem_append.1 h with h | h
  · exact hb x (List.mem_of_mem_take h)
  · exact hr x (List.mem_of_mem_drop h)
set_option maxRecDepth 100000 in
set_option maxHeartbeats 2000000 in
theorem hear_any (g : Nat) (row : List Int) (m : Nat) (A : Option Addr) (c : Nat) (b : List Int) (w : World) (hbb : Bytes b) (hear : IsEar w g row m) (hr : Kd.C (Kd.int .u8) w A b.length b) :
    Calls Try.prog 19 #[.pointer (some ⟨g, 0, none⟩), .slice A b.length c] w fun e w' => (∃ v, e = .returned v) ∧ IsEar w' g (hears row m b) (m + takes m b) ∧ Kp w w' g := by
  obtain ⟨n, hn⟩ : ∃ n, takes m b = n := ⟨_, rfl⟩
  have hmn := takes_le m b hear.most
  have hnb := takes_le' m b
  rw [hn] at hmn hnb
  have hm := hear.most
  have hc257 : w.cell? ⟨g, 257, none⟩ = some (.int .i64 m) := (hear.cell 257).trans (earRow_last row m hear.len)
  obtain ⟨P0, hP0, hP1⟩ : ∃ P0 : Option Addr, (∀ w', (Instr.sliceAt 48 (.pointer (some ⟨g, 0, none⟩)) (some (.int .i64 m)) none none).run Try.prog w' = .ok (.slice P0 (257 - m) (257 - m)) w') ∧ (m < 257 → P0 = some ⟨g, m, none⟩) := by
    refine ⟨_, fun w' => sliceAt_l (P := Try.prog) 48 5 257 Try.underlying48 (by kernel_rfl) ⟨g, 0, none⟩ m hm w', fun h => ?_⟩
    rw [if_neg (by omega), add_plain]
  have hcs : ((b.take n).map (Value.int .u8)).length = n := by rw [List.length_map, List.length_take]; omega
  have CS : (((b.take n).map (Value.int .u8)).length = n) ∧ (n = Nat.min b.length (257 - m)) ∧ (0 < n → P0 = some ⟨g, m, none⟩ ∧ ∃ ad, A = some ad ∧ ∀ j v, ((b.take n).map (Value.int .u8))[j]? = some v → (World.drew w).cell? (ad.add j) = some v) ∧ (m + n ≤ (earRow row m).length) ∧ (∀ v ∈ (b.take n).map (Value.int .u8), v.oneCell' = true) := by
    refine ⟨hcs, by rw [← hn]; rfl, fun h => ⟨hP1 (by omega), ?_⟩, by unfold earRow; rw [List.length_append, List.length_map, hear.len]; simp; omega, fun v hv => by obtain ⟨x, _, rfl⟩ := List.mem_map.1 hv; rfl⟩
    obtain ⟨ad, hA, _⟩ := Kd.at_int hr 0 (by omega) (by omega)
    refine ⟨ad, hA, fun j v hj => ?_⟩
    have hjn : j < n := by have := (List.getElem?_eq_some_iff.1 hj).1; rw [hcs] at this; exact this
    obtain ⟨ad', hA', hx⟩ := Kd.at_int hr (j : Int) (by omega) (by omega)
    obtain rfl : ad = ad' := by rw [hA] at hA'; injection hA'
    rw [Int.toNat_natCast] at hx
    rw [List.getElem?_map, List.getElem?_take, if_pos hjn, List.getElem?_eq_getElem (by omega)] at hj
    rw [show (World.drew w).cell? (ad.add j) = w.cell? (ad.add j) from rfl, hx, rd_at b j (by omega), ← hj]; rfl
  have HCS := Lib.hid CS
  have HEAR := Lib.hid hear
  have HN := Lib.hid hn
  have HC257 : Hid ((splice (earRow row m) m ((b.take n).map (Value.int .u8))).toArray[257]? = some (.int .i64 m)) := Lib.hid (splice_last row m _ hear.len (by rw [hcs]; omega))
  have hw : IntKind.i64.wrap ((m : Int) + (n : Int)) = ((m + n : Nat) : Int) := (i64_w _).trans (by unfold wrap64; omega)
  have hlm : (m : Int) ≤ 257 := by omega
  clear hcs CS hear hr hn hP1
  go_enter Try.func19, Try.ntmps19
  go_wp2_with fail
  refine start_ (n := 18) (S := fun w' => w'.cell? ⟨g, 257, none⟩ = some (.int .i64 m)) (ds := [17]) #[false, false, false, false, false, false, false, false, false, false, false, false, false, false, false, false, false, false] (by kernel_rfl) rfl rfl (hc257) (fun hHeld => ?_)
  refine pure_ (i := 0) (N := some 4) (v := ?_) (a' := ?_) #[true, false, false, false, false, false, false, false, false, false, false, false, false, false, false, false, false, false] rfl rfl (by kernel_rfl) (fun _ _ _ h => h) (Or.inl ⟨by rfl, ?_⟩) ?_ ?_
  rotate_left
  · intro w'
    go_simp
    with_reducible rfl
  rotate_left
  · simp only [Act.put, List.setIfInBounds_toArray, List.set_cons_zero, List.set_cons_succ, i64_w, i32_w]
    rfl
  refine pure_ (i := 1) (N := some 5) (v := ?_) (a' := ?_) #[true, true, false, false, false, false, false, false, false, false, false, false, false, false, false, false, false, false] rfl rfl (by kernel_rfl) (fun _ _ _ h => h) (Or.inl ⟨by rfl, ?_⟩) ?_ ?_
  rotate_left
  · intro w'
    go_simp
    with_reducible rfl
  rotate_left
  · simp only [Act.put, List.setIfInBounds_toArray, List.set_cons_zero, List.set_cons_succ, i64_w, i32_w]
    rfl
  refine pure_ (i := 2) (N := some 6) (v := ?_) (a' := ?_) #[true, true, true, false, false, false, false, false, false, false, false, false, false, false, false, false, false, false] rfl rfl (by kernel_rfl) (fun _ _ _ h => h) (Or.inl ⟨by rfl, ?_⟩) ?_ ?_
  rotate_left
  · intro w'
    go_simp
    with_reducible rfl
  rotate_left
  · simp only [Act.put, List.setIfInBounds_toArray, List.set_cons_zero, List.set_cons_succ, i64_w, i32_w]
    rfl
  refine pure_ (i := 4) (N := some 8) (v := ?_) (a' := ?_) #[true, true, true, false, true, false, false, false, false, false, false, false, false, false, false, false, false, false] rfl rfl (by kernel_rfl) (fun _ _ _ h => h) (Or.inl ⟨by rfl, ?_⟩) ?_ ?_
  rotate_left
  · intro w'
    go_simp
    with_reducible rfl
  rotate_left
  · simp only [Act.put, List.setIfInBounds_toArray, List.set_cons_zero, List.set_cons_succ, i64_w, i32_w]
    rfl
  refine pure_ (i := 5) (N := some 9) (v := ?_) (a' := ?_) #[true, true, true, false, true, true, false, false, false, false, false, false, false, false, false, false, false, false] rfl rfl (by kernel_rfl) (fun _ _ _ h => h) (Or.inl ⟨by rfl, ?_⟩) ?_ ?_
  rotate_left
  · intro w'
    go_simp
    with_reducible rfl
  rotate_left
  · simp only [Act.put, List.setIfInBounds_toArray, List.set_cons_zero, List.set_cons_succ, i64_w, i32_w]
    rfl
  refine pure_ (i := 6) (N := some 10) (v := ?_) (a' := ?_) #[true, true, true, false, true, true, true, false, false, false, false, false, false, false, false, false, false, false] rfl rfl (by kernel_rfl) (fun _ _ _ h => h) (Or.inl ⟨by rfl, ?_⟩) ?_ ?_
  rotate_left
  · intro w'
    go_simp
    with_reducible rfl
  rotate_left
  · simp only [Act.put, List.setIfInBounds_toArray, List.set_cons_zero, List.set_cons_succ, i64_w, i32_w]
    rfl
  refine pure_ (i := 7) (N := some 11) (v := ?_) (a' := ?_) #[true, true, true, false, true, true, true, true, false, false, false, false, false, false, false, false, false, false] rfl rfl (by kernel_rfl) (fun _ _ _ h => h) (Or.inl ⟨by rfl, ?_⟩) ?_ ?_
  rotate_left
  · intro w'
    go_simp
    with_reducible rfl
  rotate_left
  · simp only [Act.put, List.setIfInBounds_toArray, List.set_cons_zero, List.set_cons_succ, i64_w, i32_w]
    rfl
  refine pure_ (i := 8) (N := some 12) (v := ?_) (a' := ?_) #[true, true, true, false, true, true, true, true, true, false, false, false, false, false, false, false, false, false] rfl rfl (by kernel_rfl) (fun _ _ _ h => h) (Or.inl ⟨by rfl, ?_⟩) ?_ ?_
  rotate_left
  · intro w'
    go_simp
    with_reducible rfl
  rotate_left
  · simp only [Act.put, List.setIfInBounds_toArray, List.set_cons_zero, List.set_cons_succ, i64_w, i32_w]
    rfl
  refine pure_ (i := 9) (N := some 13) (v := ?_) (a' := ?_) #[true, true, true, false, true, true, true, true, true, true, false, false, false, false, false, false, false, false] rfl rfl (by kernel_rfl) (fun _ _ _ h => h) (Or.inl ⟨by rfl, ?_⟩) ?_ ?_
  rotate_left
  · intro w'
    go_simp
    with_reducible rfl
  rotate_left
  · simp only [Act.put, List.setIfInBounds_toArray, List.set_cons_zero, List.set_cons_succ, i64_w, i32_w]
    rfl
  refine pure_ (i := 12) (N := some 16) (v := ?_) (a' := ?_) #[true, true, true, false, true, true, true, true, true, true, false, false, true, false, false, false, false, false] rfl rfl (by kernel_rfl) (fun _ _ _ h => h) (Or.inl ⟨by rfl, ?_⟩) ?_ ?_
  rotate_left
  · intro w'
    go_simp
    with_reducible rfl
  rotate_left
  · simp only [Act.put, List.setIfInBounds_toArray, List.set_cons_zero, List.set_cons_succ, i64_w, i32_w]
    rfl
  refine take_ (i := 3) (N := some 7) (v := ?_) (a' := ?_) #[true, true, true, true, true, true, true, true, true, true, false, false, true, false, false, false, false, false] rfl rfl (by kernel_rfl) (fun _ _ _ h => h) (Or.inl ⟨by rfl, ?_⟩) hHeld ?_ ?_
  rotate_left
  · intro w' s0
    go_simp
    with_reducible rfl
  rotate_left
  · simp only [Act.put, List.setIfInBounds_toArray, List.set_cons_zero, List.set_cons_succ, i64_w, i32_w]
    rfl
  refine take_ (i := 10) (N := some 14) (v := ?_) (a' := ?_) #[true, true, true, true, true, true, true, true, true, true, true, false, true, false, false, false, false, false] rfl rfl (by kernel_rfl) (fun _ _ _ h => h) (Or.inl ⟨by rfl, ?_⟩) hHeld ?_ ?_
  rotate_left
  · intro w' s0
    go_simp
    with_reducible rfl
  rotate_left
  · simp only [Act.put, List.setIfInBounds_toArray, List.set_cons_zero, List.set_cons_succ, i64_w, i32_w]
    rfl
  refine pure_ (i := 11) (N := some 15) (v := ?_) (a' := ?_) #[true, true, true, true, true, true, true, true, true, true, true, true, true, false, false, false, false, false] rfl rfl (by kernel_rfl) (fun _ _ _ h => h) (Or.inl ⟨by rfl, ?_⟩) ?_ ?_
  rotate_left
  · intro w'
    go_simp
    with_reducible rfl
  rotate_left
  · simp only [Act.put, List.setIfInBounds_toArray, List.set_cons_zero, List.set_cons_succ, i64_w, i32_w]
    rfl
  refine one_ (i := 13) (N := some 17) #[true, true, true, true, true, true, true, true, true, true, true, true, true, true, false, false, false, false] rfl rfl (by kernel_rfl) (by decide) (fun K hK => ?_)
  refine step_copy_keep rfl (.tmp 15) (.tmp 16) 22 22 rfl 5 Try.underlying22 (by kernel_rfl) P0 A (257 - m) (257 - m) b.length c (by rfl) (by rfl) g m (earRow row m) 50 (show (World.drew w).heap[g]? = _ from HEAR.out.blk) n HCS.out.1 HCS.out.2.1 HCS.out.2.2.1 HCS.out.2.2.2.1 HCS.out.2.2.2.2 ?_
  intro w3 hg3 hk3
  have HG3 := Lib.hid hg3
  have HK3 := Lib.hid hk3
  have hc3 : w3.cell? ⟨g, 257, none⟩ = some (.int .i64 m) := (blk_cell HG3.out 257).trans HC257.out
  clear hg3 hk3
  refine hK.out _ _ (hc3) (fun hHeld => ?_)
  clear hK K
  refine norm_ (a' := ?_) ?_ ?_
  rotate_left
  · show Act.put _ (some 17) _ = _
    simp only [Act.put, List.setIfInBounds_toArray, List.set_cons_zero, List.set_cons_succ, i64_w, i32_w]
    rfl
  refine pure_ (i := 14) (N := some 18) (v := ?_) (a' := ?_) #[true, true, true, true, true, true, true, true, true, true, true, true, true, true, true, false, false, false] rfl rfl (by kernel_rfl) (fun _ _ _ h => h) (Or.inl ⟨by rfl, ?_⟩) ?_ ?_
  rotate_left
  · intro w'
    go_simp
    with_reducible rfl
  rotate_left
  · simp only [Act.put, List.setIfInBounds_toArray, List.set_cons_zero, List.set_cons_succ, i64_w, i32_w]
    rfl
  refine pure_ (i := 15) (N := some 19) (v := ?_) (a' := ?_) #[true, true, true, true, true, true, true, true, true, true, true, true, true, true, true, true, false, false] rfl rfl (by kernel_rfl) (fun _ _ _ h => h) (Or.inl ⟨by rfl, ?_⟩) ?_ ?_
  rotate_left
  · intro w'
    go_simp
    with_reducible rfl
  rotate_left
  · simp only [Act.put, List.setIfInBounds_toArray, List.set_cons_zero, List.set_cons_succ, i64_w, i32_w]
    rfl
  refine pure_ (i := 16) (N := some 20) (v := ?_) (a' := ?_) #[true, true, true, true, true, true, true, true, true, true, true, true, true, true, true, true, true, false] rfl rfl (by kernel_rfl) (fun _ _ _ h => h) (Or.inl ⟨by rfl, ?_⟩) ?_ ?_
  rotate_left
  · intro w'
    go_simp
    with_reducible rfl
  rotate_left
  · simp only [Act.put, List.setIfInBounds_toArray, List.set_cons_zero, List.set_cons_succ, i64_w, i32_w]
    rfl
  refine last_ (i := 17) (N := none) #[true, true, true, true, true, true, true, true, true, true, true, true, true, true, true, true, true, true] rfl rfl (by kernel_rfl) (by decide) (fun K hK => ?_)
  have hf3 := blk_frozen HG3.out 257
  refine skip_ (w1 := ?_) (by rfl) rfl ?_ ?_
  rotate_left
  · go_simp
    rfl
  refine hK.out _ _ ?_
  clear hK K
  refine done_ (by kernel_rfl) ?_
  go_wp2_with fail
  go_end0
  rw [HN.out]
  have e : ((m : Int) + (n : Int)) = ((m + n : Nat) : Int) := by omega
  rw [e]
  refine ⟨⟨_, rfl⟩, ⟨?_, hears_length row m b HEAR.out.len hm, bytes_hears HEAR.out.byt hbb m, hmn⟩, (HK3.out.set 257 _).drew⟩
  refine blk_put HG3.out 257 _ ?_
  rw [← HN.out]
  exact earRow_hears row m (m + takes m b) b HEAR.out.len hm
/-! ### Get -/
def getOf (l : List Int) : Int × List Int × Int :=
  if 256 < l.length then (0, [], 22) else if l.length < 4 then (0, [], 21) else if sum l = 0 then (rd l 0, (l.take (l.length - 2)).drop 1, 0) else (0, [], 23)
def GetPost (w : World) (r : Int × List Int × Int) (e : Ending) (w' : World) : Prop :=
  ∃ B d, e = .returned (.tuple #[.int .u8 r.1, .slice B r.2.1.length d, .int .i64 r.2.2]) ∧ r.2.1.length ≤ d ∧ Kd.C (Kd.int .u8) w' B r.2.1.length r.2.1 ∧ Below w.heap.size w w'
theorem get_f {l : List Int} (h : Bytes l) : QA.rtu_Get.f l = some (getOf l) := by
  unfold QA.rtu_Get.f getOf
  by_cases h1 : 256 < l.length
  · rw [if_pos (by omega), if_pos h1]
  rw [if_neg (by omega), if_neg h1]
  by_cases h2 : l.length < 4
  · rw [if_pos (by omega), if_pos h2]
  rw [if_neg (by omega), if_neg h2]
  have ho : QA.crc_Open.f l = some (if 2 ≤ l.length ∧ sum l = 0 then l.take (l.length - 2) else [], decide (2 ≤ l.length ∧ sum l = 0)) := by
    unfold QA.crc_Open.f; rw [if_pos ⟨by omega, bytes_all h⟩]
  rw [ho, Option.bind_some]
  by_cases hs : sum l = 0
  · have hc : 2 ≤ l.length ∧ sum l = 0 := ⟨by omega, hs⟩
    have hl : (l.take (l.length - 2)).length = l.length - 2 := by rw [List.length_take]; omega
    have hrd : rd (l.take (l.length - 2)) 0 = rd l 0 := by
      have e0 : rd (l.take (l.length - 2)) ((0 : Nat) : Int) = rd l ((0 : Nat) : Int) := by rw [rd_at _ 0 (by omega), rd_at l 0 (by omega)]; simp
      exact e0
    rw [if_pos hs]
    simp only [if_pos hc, decide_eq_true hc, if_true]
    rw [if_pos (by omega), if_pos (by omega), hrd]; rfl
  · have hc : ¬ (2 ≤ l.length ∧ sum l = 0) := fun h => hs h.2
    rw [if_neg hs]
    simp only [decide_eq_false hc, Bool.false_eq_true, if_false]
theorem get_any (A : Option Addr) (c : Nat) (l : List Int) (w : World) (hb : Bytes l) (hr : Kd.C (Kd.int .u8) w A l.length l) (hc : l.length ≤ c) :
    Calls Try.prog 10 #[.slice A l.length c] w (GetPost w (getOf l)) := by
  refine (QA.rtu_Get.calls A c l (getOf l).1 (getOf l).2.1 (getOf l).2.2 w hr hc (get_f hb)).mono ?_
  rintro e w' ⟨v, rfl, ho, hb⟩
  obtain ⟨B, d, rfl, hl, hC⟩ := Kd.Q_reads ho
  exact ⟨B, d, rfl, hl, hC, hb⟩
theorem bytes_drop {l : List Int} (h : Bytes l) (k : Nat) : Bytes (l.drop k) := fun x hx => h x (List.mem_of_mem_drop hx)
/-! ### the other methods -/
theorem many_any (g : Nat) (row : List Int) (m : Nat) (w : World) (hear : IsEar w g row m) : Calls Try.prog 21 #[.pointer (some ⟨g, 0, none⟩)] w fun e w' => e = .returned (.int .i64 m) ∧ w = w' := by
  have hc257 : w.cell? ⟨g, 257, none⟩ = some (.int .i64 m) := (hear.cell 257).trans (earRow_last row m hear.len)
  clear hear
  go_enter Try.func21, Try.ntmps21
  go_wp2_with fail
  go_ret
  exact ⟨rfl, rfl⟩
def zeros : List Int := List.replicate 257 0
def ear0 : Array Value := (earRow zeros 0).toArray
theorem zero50 (w : World) : (zeroValue 50).run Try.prog w = .ok (.agg ear0) w := by kernel_rfl
theorem new_any (w : World) : Calls Try.prog 14 #[] w fun e w' => ∃ g, e = .returned (.pointer (some ⟨g, 0, none⟩)) ∧ w.heap.size ≤ g ∧ IsEar w' g zeros 0 ∧ Below w.heap.size w w' := by
  have hbd := zero50
  go_enter Try.func14, Try.ntmps14
  go_wp2_with fail
  go_ret
  exact ⟨_, rfl, Nat.le_refl _, ⟨blk_new _ _, List.length_replicate, fun x hx => by have := (List.mem_replicate.1 hx).2; omega, by omega⟩, below_alloc (Below.refl _ _) _⟩
theorem earRow_zero (row : List Int) (m : Nat) (hl : row.length = 257) : (earRow row m).toArray.setIfInBounds 257 (.int .i64 0) = (earRow row 0).toArray := by
  unfold earRow
  rw [List.setIfInBounds_toArray, List.set_append_right _ _ (by rw [List.length_map]; omega), List.length_map, hl]; rfl
theorem ear_C {w : World} {g : Nat} {row : List Int} {k : Nat} (h : IsEar w g row k) (m : Nat) (hm : m ≤ 257) : Kd.C (Kd.int .u8) w (some ⟨g, 0, none⟩) (row.take m).length (row.take m) := by
  have hl := h.len
  refine ⟨rfl, by rw [List.length_take]; omega, fun _ => ⟨_, rfl, fun j p hp => ⟨[.int .u8 p], rfl, rfl, fun i u hu => ?_⟩⟩⟩
  obtain rfl : i = 0 := by
    have := (List.getElem?_eq_some_iff.1 hu).1; simp at this; exact this
  obtain rfl : _ = u := by simpa using hu
  have hsz : j * (Kd.int .u8).sz + 0 = j := Nat.mul_one j
  have hjm : j < m ∧ j < 257 := by have := (List.getElem?_eq_some_iff.1 hp).1; rw [List.length_take] at this; omega
  rw [hsz, add_plain, h.cell j]
  unfold earRow
  rw [List.getElem?_toArray, List.getElem?_append_left (by rw [List.length_map]; omega), List.getElem?_map]
  rw [List.getElem?_take, if_pos hjm.1] at hp
  rw [hp]; rfl
def silOf (bs : List Int) : Int × List Int × Int × Bool := if bs = [] then (0, [], 0, false) else ((getOf bs).1, (getOf bs).2.1, (getOf bs).2.2, true)
def SilPost (w : World) (g : Nat) (row : List Int) (r : Int × List Int × Int × Bool) (e : Ending) (w' : World) : Prop :=
  ∃ B d, e = .returned (.tuple #[.int .u8 r.1, .slice B r.2.1.length d, .int .i64 r.2.2.1, .bool r.2.2.2]) ∧ r.2.1.length ≤ d ∧ Kd.C (Kd.int .u8) w' B r.2.1.length r.2.1 ∧ IsEar w' g row 0 ∧ Kp w w' g
set_option maxRecDepth 100000 in
set_option maxHeartbeats 1000000 in
theorem silence_any (g : Nat) (row : List Int) (m : Nat) (w : World) (hear : IsEar w g row m) :
    Calls Try.prog 17 #[.pointer (some ⟨g, 0, none⟩)] w (SilPost w g row (silOf (row.take m))) := by
  have hm := hear.most
  have hl := hear.len
  have hc257 : w.cell? ⟨g, 257, none⟩ = some (.int .i64 m) := (hear.cell 257).trans (earRow_last row m hear.len)
  have hf := blk_frozen hear.blk 257
  have hgl := blk_lt hear.blk
  have hlt : (row.take m).length = m := by rw [List.length_take]; omega
  have hear0 : IsEar (w.setCell ⟨g, 257, none⟩ (.int .i64 0)) g row 0 := ⟨blk_put hear.blk 257 _ (earRow_zero row m hear.len), hear.len, hear.byt, by omega⟩
  have HE0 := Lib.hid hear0
  have HK := Lib.hid ((Kp.refl w g).set 257 (.int .i64 0))
  by_cases h0 : m = 0
  · subst h0
    have e : silOf (row.take 0) = (0, [], 0, false) := by unfold silOf; rw [if_pos (by simp)]
    have HS := Lib.hid e
    clear e hear hear0 hlt hl
    go_enter Try.func17, Try.ntmps17
    go_wp2_with fail
    refine bodyPost_ret (v := .tuple #[.int .u8 0, .slice none 0 0, .int .i64 0, .bool false]) (by simp [results, Try.f17, go_sem]) rfl ?_
    rw [HS.out]
    exact ⟨none, 0, rfl, Nat.le_refl _, Kd.C_nil _ _, HE0.out, HK.out⟩
  · have e : silOf (row.take m) = ((getOf (row.take m)).1, (getOf (row.take m)).2.1, (getOf (row.take m)).2.2, true) := by
      unfold silOf; rw [if_neg (fun h => h0 (by rw [← hlt, h]; rfl))]
    have HS := Lib.hid e
    have hcut := sliceAt_h (P := Try.prog) 48 5 257 Try.underlying48 (by kernel_rfl) ⟨g, 0, none⟩ m hm
    have hG := get_any (some ⟨g, 0, none⟩) 257 (row.take m) _ (bytes_take hear.byt m) (ear_C hear0 m hm) (by omega)
    obtain ⟨r, hr⟩ : ∃ r, getOf (row.take m) = r := ⟨_, rfl⟩
    rw [hr] at hG
    rw [hlt] at hG
    have HG := Lib.hid hG
    have HR := Lib.hid hr
    have hm0 : ((m : Int) == 0) = false := beq_eq_false_iff_ne.mpr (by omega)
    have hgs : g < (w.setCell ⟨g, 257, none⟩ (.int .i64 0)).heap.size := by simpa [World.setCell] using hgl
    clear e hear hear0 hlt hl hG hr
    go_enter Try.func17, Try.ntmps17
    go_wp2_with fail
    refine HG.out.mono ?_
    rintro e w1 ⟨B, d, rfl, hd, hC, hb⟩
    have HC := Lib.hid hC
    have HB := Lib.hid hb
    clear hC hb
    go_wp2_with fail
    refine bodyPost_ret (v := .tuple #[.int .u8 r.1, .slice B r.2.1.length d, .int .i64 r.2.2, .bool true]) (by simp [results, Try.f17, go_sem]) rfl ?_
    rw [HS.out, HR.out]
    exact ⟨B, d, rfl, hd, HC.out, ⟨(HB.out.block g hgs).trans HE0.out.blk, HE0.out.len, HE0.out.byt, by omega⟩, HK.out.trans (Kp.of_below HB.out g)⟩
end Go.Proofs.Ytafkabkoglbndaa
