/- Steps that the disk needs: a copy into a block, a store of an array, a row that is made. -/
import Derived.Test.YtacpeilgjaodbaaKit
import Derived.Test.YtacpeilgjaodbaaReg
import Derived.Test.YtacpeilgjaodbaaWMore
import Derived.Laws.CopyOwn
import Derived.Laws.CopyRow
import Derived.Deep.RegionLaw
namespace Go.Proofs.Ytacpeilgjaodbaa
open Go.RowKit Go.Proofs.YtacpeilgjaodbaaW.PrintWords Go.Proofs.YtacpeilgjaodbaaW.PrintLast Go.Proofs.YtacpeilgjaodbaaW.PrintMore
set_option linter.unusedVariables false
set_option linter.unusedSimpArgs false
/-- One block may have changed, and there may be new ones. -/
structure Kp (w w' : World) (g : Nat) : Prop where
  os : w'.os = w.os
  tape : w'.tape = w.tape
  output : w'.output = w.output
  size : w.heap.size ≤ w'.heap.size
  block : ∀ k, k < w.heap.size → k ≠ g → w'.heap[k]? = w.heap[k]?
theorem Kp.refl (w : World) (g : Nat) : Kp w w g := ⟨rfl, rfl, rfl, Nat.le_refl _, fun _ _ _ => rfl⟩
theorem Kp.trans {w w1 w2 : World} {g : Nat} (h : Kp w w1 g) (k : Kp w1 w2 g) : Kp w w2 g := ⟨k.os.trans h.os, k.tape.trans h.tape, k.output.trans h.output, Nat.le_trans h.size k.size, fun j hj hg => (k.block j (Nat.lt_of_lt_of_le hj h.size) hg).trans (h.block j hj hg)⟩
theorem Kp.below {w w' : World} {g B : Nat} (h : Kp w w' g) (hg : B ≤ g) (hB : B ≤ w.heap.size) : Below B w w' := ⟨h.os, h.tape, h.output, h.size, fun k hk => h.block k (by omega) (by omega)⟩
theorem Kp.of_below {w w' : World} (h : Below w.heap.size w w') (g : Nat) : Kp w w' g := ⟨h.os, h.tape, h.output, h.size, fun k hk _ => h.block k hk⟩
theorem Kp.set {w w' : World} {g : Nat} (h : Kp w w' g) (i : Nat) (u : Value) : Kp w (w'.setCell ⟨g, i, none⟩ u) g := ⟨h.os, h.tape, h.output, by simpa [World.setCell] using h.size, fun k hk hg => (Below.heap_setCell w' _ u k hg).trans (h.block k hk hg)⟩
theorem Kp.drew {w w' : World} {g : Nat} (h : Kp w.drew w' g) : Kp w w' g := ⟨h.os, h.tape, h.output, h.size, h.block⟩
open Go.RowKit in
/-- A copy into a block, as a step of a region: the other blocks stay. -/
theorem step_copy_keep {P : Program} {ops : Array Oper} {o : Oper} {a : Act} {w : World} {K : Act → World → Prop} {Q : Exit → Act → World → Prop} {E : Prop} (hgd : o.guard = none) (d s : Operand) (dT sT : TypeId)
    (ho : o.op = .call { callee := .builtin .copy, args := #[d, s], argTypes := #[dT, sT] }) (elem : TypeId) (hu : P.underlying dT = some (.slice elem)) (hsz : (P.info? elem).map (·.size) = some 1)
    (dp sp : Option Addr) (dLen dCap sLen sCap : Nat) (hd : a.eval d = .slice dp dLen dCap) (hs : a.eval s = .slice sp sLen sCap)
    (g off : Nat) (cur : List Value) (t : TypeId) (hg : w.heap[g]? = some (.cells cur.toArray t (0, 0))) (n : Nat) {cs : List Value} (hcn : cs.length = n) (hn : n = Nat.min sLen dLen)
    (hpos : 0 < n → dp = some ⟨g, off, none⟩ ∧ ∃ ad, sp = some ad ∧ ∀ j v, cs[j]? = some v → w.cell? (ad.add j) = some v)
    (hfit : off + n ≤ cur.length) (h1 : ∀ v ∈ cs, v.oneCell' = true)
    (h : ∀ w', w'.heap[g]? = some (.cells (splice cur off cs).toArray t (0, 0)) → Kp w w' g → K (a.put o.dst (.int .i64 n)) w') :
    if Region.wanted o (yielded ops a.tmps) = true then Oper.wp P o a w K Q else E := by
  have hw : Region.wanted o (yielded ops a.tmps) = true := by simp [Region.wanted, hgd]
  subst hcn
  rw [if_pos hw]
  by_cases h0 : cs.length = 0
  · obtain rfl : cs = [] := List.eq_nil_of_length_eq_zero h0
    have hrun := run_copy_none (P := P) w dT sT o.type elem dp sp dLen dCap sLen sCap hu hsz (by simpa using hn.symm)
    unfold Oper.wp
    simp [execOp, ho, resolve, invoke, builtin, hd, hs, hrun, Result.andThen]
    exact h w (show _ = _ by simpa [splice] using hg) (Kp.refl _ _)
  · obtain ⟨rfl, ad, rfl, hsrc⟩ := hpos (by omega)
    have hrun := run_copy_row (P := P) w dT sT o.type elem g off dLen dCap ad sLen sCap cur.toArray t cs hu hsz hg hn hsrc (by simpa using hfit) h1
    unfold Oper.wp
    simp [execOp, ho, resolve, invoke, builtin, hd, hs, hrun, Result.andThen]
    exact h _ (show _ = _ by simpa [splice] using setRow_heap w g _ _ t _ hg) ⟨rfl, rfl, rfl, by simp [World.setRow], fun k _ hk => setRow_other w g k _ hk⟩
theorem sliceAt_l {P : Program} (t elem : TypeId) (n : Nat) (ht : P.underlying t = some (.array n elem)) (hs : (P.info? elem).map (·.size) = some 1) (a : Addr) (m : Nat) (hm : m ≤ n) (w : World) :
    (Instr.sliceAt t (.pointer (some a)) (some (.int .i64 m)) none none).run P w = .ok (.slice (some (if n = m then a else a.add m)) (n - m) (n - m)) w := by
  have hsz := run_sliceBound (P := P) w .i64 (m : Int) n .sliceB (by omega) (by omega)
  cases hq : P.info? elem with
  | none => simp [hq] at hs
  | some i =>
    have hi : i.size = 1 := by simpa [hq] using hs
    simp [Instr.sliceAt, run_underlying ht, Instr.sliceBounds, hsz, sizeOf, typeInfo, hq, hi, Instr.sureAddr]
theorem sliceAt_h {P : Program} (t elem : TypeId) (n : Nat) (ht : P.underlying t = some (.array n elem)) (hs : (P.info? elem).map (·.size) = some 1) (a : Addr) (m : Nat) (hm : m ≤ n) (w : World) :
    (Instr.sliceAt t (.pointer (some a)) none (some (.int .i64 m)) none).run P w = .ok (.slice (some a) m n) w := by
  have hsz := run_sliceBound (P := P) w .i64 (m : Int) n .sliceAlen (by omega) (by omega)
  have ha : a.add 0 = a := by unfold Addr.add; simp
  cases hq : P.info? elem with
  | none => simp [hq] at hs
  | some i =>
    have hi : i.size = 1 := by simpa [hq] using hs
    simp [Instr.sliceAt, run_underlying ht, Instr.sliceBounds, hsz, sizeOf, typeInfo, hq, hi, Instr.sureAddr, ha]

theorem splice_as (cur : List Value) (o : Nat) (vs : List Value) : cur.take o ++ vs ++ cur.drop (o + vs.length) = splice cur o vs := by unfold splice; simp
/-- An array's cells stored inside a block. -/
theorem run_storeVar_at {P : Program} (w : World) (g off : Nat) (t ty : TypeId) (cur : List Value) (cells : Array Value) (hg : w.heap[g]? = some (.cells cur.toArray t (0, 0))) (hi : (P.info? ty).map (·.size) = some cells.size)
    (hfit : off + cells.size ≤ cur.length) (h1 : cells.all (·.oneCell') = true) :
    (storeVar ty ⟨g, off, none⟩ (.agg cells)).run P w = .ok () (w.setRow g (splice cur off cells.toList).toArray) := by
  have := run_storeCells_at (P := P) g off t cells.toList 0 cur.toArray w hg (by simpa using hfit) (fun v hv => (Array.all_eq_true_iff_forall_mem.1 h1) v (by simpa using hv))
  simp only [Nat.add_zero, List.toList_toArray, splice_as] at this
  cases hq : P.info? ty with
  | none => simp [hq] at hi
  | some i =>
    have hs : cells.size = i.size := by simp [hq] at hi; omega
    simp [storeVar, sizeOf, typeInfo, hq, Value.cells, hs, this]
theorem wp_store_at {P : Program} {o : Oper} {a : Act} {w : World} {K : Act → World → Prop} {Q : Exit → Act → World → Prop} (ty : TypeId) (x y : Operand) (ho : o.op = .store ty x y)
    (g off : Nat) (cells : Array Value) (hx : a.eval x = .pointer (some ⟨g, off, none⟩)) (hy : a.eval y = .agg cells)
    (t : TypeId) (cur : List Value) (hg : w.heap[g]? = some (.cells cur.toArray t (0, 0))) (hi : (P.info? ty).map (·.size) = some cells.size)
    (hfit : off + cells.size ≤ cur.length) (h1 : cells.all (·.oneCell') = true)
    (h : K (a.put o.dst undef) (w.setRow g (splice cur off cells.toList).toArray)) : o.wp P a w K Q := by
  unfold Oper.wp execOp
  simp only [ho, hx, hy, Instr.storeAt, Instr.sureAddr, Sem.run_bind, Sem.run_pure, Result.andThen_ok, run_storeVar_at w g off t ty cur cells hg hi hfit h1]
  exact h
theorem Kp.row {w w' : World} {g : Nat} (h : Kp w w' g) (cs : Array Value) : Kp w (w'.setRow g cs) g := ⟨h.os, h.tape, h.output, by simpa [World.setRow] using h.size, fun k hk hg => (setRow_other w' g k cs hg).trans (h.block k hk hg)⟩
/-- Is a block of none of these types? -/
def Off (T : List TypeId) : Obj → Prop
  | .cells _ t _ => t ∉ T
  | _ => True
/-- Blocks of other types stay. -/
def KeepT (T : List TypeId) (w w' : World) : Prop := ∀ (k : Nat) (o : Obj), w.heap[k]? = some o → Off T o → w'.heap[k]? = some o
theorem KeepT.refl (T : List TypeId) (w : World) : KeepT T w w := fun _ _ h _ => h
theorem KeepT.trans {T : List TypeId} {w w1 w2 : World} (h : KeepT T w w1) (k : KeepT T w1 w2) : KeepT T w w2 := fun i o hi ho => k i o (h i o hi ho) ho
theorem KeepT.of_below {T : List TypeId} {w w' : World} (h : Below w.heap.size w w') : KeepT T w w' := fun k o hk _ => (h.block k (blk_lt hk)).trans hk
theorem Kp.kt {T : List TypeId} {w w' : World} {g : Nat} (h : Kp w w' g) {cs : Array Value} {t : TypeId} {fr : Nat × Nat} (hg : w.heap[g]? = some (.cells cs t fr)) (ht : t ∈ T) : KeepT T w w' := fun k o hk ho => by
  by_cases e : k = g
  · subst e; rw [hg] at hk; injection hk with hk; subst hk; exact absurd ht ho
  · exact (h.block k (blk_lt hk) e).trans hk
theorem KeepT.cells {T : List TypeId} {w w' : World} (h : KeepT T w w') {k : Nat} {cs : Array Value} {t : TypeId} {fr : Nat × Nat} (hk : w.heap[k]? = some (.cells cs t fr)) (ht : t ∉ T) : w'.heap[k]? = some (.cells cs t fr) := h k _ hk ht
end Go.Proofs.Ytacpeilgjaodbaa
