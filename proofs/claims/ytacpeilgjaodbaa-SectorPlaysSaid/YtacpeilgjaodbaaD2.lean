/- The disk, and its small methods. -/
import Derived.Test.YtacpeilgjaodbaaD1
namespace Go.Proofs.Ytacpeilgjaodbaa
open Go.RowKit Go.Proofs.YtacpeilgjaodbaaW.PrintWords Go.Proofs.YtacpeilgjaodbaaW.PrintLast Go.Proofs.YtacpeilgjaodbaaW.PrintMore
attribute [local go_sem] max2_int min2_int max_two min_two
set_option linter.unusedVariables false
set_option linter.unusedSimpArgs false
def Bytes (l : List Int) : Prop := ∀ x ∈ l, 0 ≤ x ∧ x ≤ 255
/-- A disk as data: all sectors' bytes in one row, how many sectors, the cut to come, is it down, how many were written. -/
structure Dk where
  rows : List Int
  n : Nat
  cut : Option (Int × Int)
  down : Bool
  wrote : Int
def diskCells (r : Nat) (D : Dk) (p : Option Addr) : Array Value := #[.slice (some ⟨r, 0, none⟩) D.n D.n, .pointer p, .bool D.down, .int .i64 D.wrote]
def CutAt (w : World) (B g r : Nat) : Option (Int × Int) → Option Addr → Prop
  | none, p => p = none
  | some (a, b), p => ∃ q, p = some ⟨q, 0, none⟩ ∧ B ≤ q ∧ q ≠ g ∧ q ≠ r ∧ w.heap[q]? = some (.cells #[.int .i64 a, .int .i64 b] 54 (0, 0)) ∧ 0 ≤ a ∧ a ≤ 9223372036854775807 ∧ 0 ≤ b ∧ b ≤ 64
structure IsDisk (w : World) (B g r : Nat) (D : Dk) : Prop where
  blk : ∃ p, w.heap[g]? = some (.cells (diskCells r D p) 46 (0, 0)) ∧ CutAt w B g r D.cut p
  row : w.heap[r]? = some (.cells (D.rows.map (Value.int .u8)).toArray 52 (0, 0))
  len : D.rows.length = 64 * D.n
  byt : Bytes D.rows
  ne : g ≠ r
  bg : B ≤ g
  br : B ≤ r
  big : D.n ≤ 256
theorem made_zero (n : Nat) : madeCells (Array.replicate 64 (Value.int .u8 0)) n = ((List.replicate n (0 : Int)).map (Value.int .u8)).toArray := by
  unfold madeCells
  apply Array.ext
  · simp
  · intro i h1 h2
    have h3 : i % 64 < 64 := Nat.mod_lt _ (by decide)
    simp [h3]
theorem info52 : (Try.prog.info? 52).map (fun i => (i.zero, i.size, i.bytes)) = some (some (.agg (Array.replicate 64 (Value.int .u8 0))), 64, 64) := by kernel_rfl
theorem make_any (n : Nat) (hn : n ≤ 256) (W : World) : (Instr.makeSlice 43 (.int .i64 (n : Int)) (.int .i64 (n : Int))).run Try.prog W = .ok (.slice (some ⟨W.heap.size, 0, none⟩) n n) (W.alloc (.cells ((List.replicate (n * 64) (0 : Int)).map (Value.int .u8)).toArray 52)) := by
  obtain ⟨i0, hi, hzz⟩ := Option.map_eq_some_iff.1 info52
  simp only [Prod.mk.injEq] at hzz
  obtain ⟨hz0, hz1, hz2⟩ := hzz
  have hr := run_make (P := Try.prog) W 43 52 i0 _ Try.underlying43 hi hz0 .i64 .i64 (n : Int) (n : Int) (by omega) (by omega) (by rw [hz2]; omega) (by omega)
  rw [Int.toNat_natCast, hz1] at hr
  rw [hr]
  show Result.ok _ (W.alloc (.cells (madeCells (Array.replicate 64 (Value.int .u8 0)) (n * 64)) 52)) = _
  rw [made_zero]
/-- How many sectors a new disk has. -/
def manyOf (m : Int) : Nat := (min (max m 1) 256).toNat
def new (m : Int) : Dk := ⟨List.replicate (manyOf m * 64) 0, manyOf m, none, false, 0⟩
theorem new_any (m : Int) (w : World) : Calls Try.prog 9 #[.int .i64 m] w fun e w' => ∃ g r, e = .returned (.pointer (some ⟨g, 0, none⟩)) ∧ IsDisk w' w.heap.size g r (new m) ∧ Below w.heap.size w w' := by
  obtain ⟨n, hn⟩ : ∃ n, manyOf m = n := ⟨_, rfl⟩
  have hn2 : n ≤ 256 := by rw [← hn]; unfold manyOf; omega
  have hmk := make_any n hn2
  have HN := Lib.hid hn
  have HN2 := Lib.hid hn2
  have h1 : (if m < 1 then (1 : Int) else m) = max m 1 := by rw [Int.max_def]; split <;> split <;> omega
  obtain ⟨x, hx⟩ : ∃ x : Int, (if m < 1 then (1 : Int) else m) = x := ⟨_, rfl⟩
  have h2 : (if (256 : Int) < x then (256 : Int) else x) = (n : Int) := by rw [← hn]; unfold manyOf; rw [← h1, hx]; rw [Int.min_def]; split <;> split <;> omega
  clear h1 hn hn2
  go_enter Try.func9, Try.ntmps9
  go_wp2_with fail
  go_ret
  have hs : ∀ o : Obj, (w.alloc o).heap.size = w.heap.size + 1 := fun o => (show (w.heap.push _).size = _ from Array.size_push _)
  refine ⟨w.heap.size + 1, w.heap.size, rfl, ⟨⟨none, ?_, rfl⟩, ?_, ?_, ?_, by omega, by omega, Nat.le_refl _, ?_⟩, below_alloc (below_alloc (Below.refl _ _) _) _⟩
  · have := blk_new (w.alloc (Obj.cells (Array.replicate (n * 64) (Value.int IntKind.u8 0)) 52)) (Obj.cells #[Value.slice (some ⟨w.heap.size, 0, none⟩) n n, Value.pointer none, Value.bool false, Value.int IntKind.i64 0] 46)
    rw [hs] at this
    rw [this]
    show _ = some (Obj.cells (diskCells w.heap.size (new m) none) 46 (0, 0))
    unfold diskCells new
    rw [HN.out]
  · have h := blk_alloc (blk_new w (Obj.cells (Array.replicate (n * 64) (Value.int IntKind.u8 0)) 52)) (Obj.cells #[Value.slice (some ⟨w.heap.size, 0, none⟩) n n, Value.pointer none, Value.bool false, Value.int IntKind.i64 0] 46)
    rw [h]
    unfold new
    rw [HN.out]
    simp
  · unfold new; rw [HN.out, List.length_replicate]; show n * 64 = 64 * n; omega
  · intro x hx
    have := (List.mem_replicate.1 hx).2
    omega
  · unfold new; rw [HN.out]; exact HN2.out
theorem IsDisk.lt {w : World} {B g r : Nat} {D : Dk} (h : IsDisk w B g r D) : B ≤ w.heap.size := by
  obtain ⟨p, hg, _⟩ := h.blk
  have := blk_lt hg
  have := h.bg
  omega
theorem many_any (B g r : Nat) (D : Dk) (w : World) (h : IsDisk w B g r D) : Calls Try.prog 24 #[.pointer (some ⟨g, 0, none⟩)] w fun e w' => e = .returned (.int .i64 (D.n : Int)) ∧ w = w' := by
  obtain ⟨p, hg, _⟩ := h.blk
  have hc0 : w.cell? ⟨g, 0, none⟩ = some (.slice (some ⟨r, 0, none⟩) D.n D.n) := (blk_cell hg 0).trans rfl
  clear hg h
  go_enter Try.func24, Try.ntmps24
  go_wp2_with fail
  go_ret
  exact ⟨rfl, rfl⟩
theorem writes_any (B g r : Nat) (D : Dk) (w : World) (h : IsDisk w B g r D) : Calls Try.prog 22 #[.pointer (some ⟨g, 0, none⟩)] w fun e w' => e = .returned (.int .i64 D.wrote) ∧ w = w' := by
  obtain ⟨p, hg, _⟩ := h.blk
  have hc0 : w.cell? ⟨g, 3, none⟩ = some (.int .i64 D.wrote) := (blk_cell hg 3).trans rfl
  clear hg h
  go_enter Try.func22, Try.ntmps22
  go_wp2_with fail
  go_ret
  exact ⟨rfl, rfl⟩
theorem down_any (B g r : Nat) (D : Dk) (w : World) (h : IsDisk w B g r D) : Calls Try.prog 20 #[.pointer (some ⟨g, 0, none⟩)] w fun e w' => e = .returned (.bool D.down) ∧ w = w' := by
  obtain ⟨p, hg, _⟩ := h.blk
  have hc0 : w.cell? ⟨g, 2, none⟩ = some (.bool D.down) := (blk_cell hg 2).trans rfl
  clear hg h
  go_enter Try.func20, Try.ntmps20
  go_wp2_with fail
  go_ret
  exact ⟨rfl, rfl⟩
def boot (D : Dk) : Dk := { D with down := false, cut := none }
theorem boot_any (B g r : Nat) (D : Dk) (w : World) (h : IsDisk w B g r D) : Calls Try.prog 16 #[.pointer (some ⟨g, 0, none⟩)] w fun e w' => (∃ v, e = .returned v) ∧ IsDisk w' B g r (boot D) ∧ Below B w w' ∧ KeepT [46, 52, 54] w w' := by
  obtain ⟨p, hg, _⟩ := h.blk
  have hc1 : w.cell? ⟨g, 1, none⟩ = some (.pointer p) := (blk_cell hg 1).trans rfl
  have hc2 : w.cell? ⟨g, 2, none⟩ = some (.bool D.down) := (blk_cell hg 2).trans rfl
  have hf1 := blk_frozen hg 1
  have hf2 := blk_frozen hg 2
  have HG := Lib.hid hg
  have HD := Lib.hid h
  clear hg h
  go_enter Try.func16, Try.ntmps16
  go_wp2_with fail
  go_end0
  have hk : Kp w ((w.setCell ⟨g, 2, none⟩ (.bool false)).setCell ⟨g, 1, none⟩ (.pointer none)) g := ((Kp.refl w g).set 2 _).set 1 _
  refine ⟨⟨_, rfl⟩, ⟨⟨none, blk_put (blk_put HG.out 2 _ rfl) 1 _ rfl, rfl⟩, (hk.block r (blk_lt HD.out.row) (Ne.symm HD.out.ne)).trans HD.out.row, HD.out.len, HD.out.byt, HD.out.ne, HD.out.bg, HD.out.br, HD.out.big⟩, hk.below HD.out.bg HD.out.lt, hk.kt HG.out (by decide)⟩
def clamp (b : Int) : Int := min (max b 0) 64
def cut (D : Dk) (a b : Int) : Dk := if 0 ≤ a then { D with cut := some (a, clamp b) } else D
theorem cut_any (B g r : Nat) (D : Dk) (a b : Int) (w : World) (h : IsDisk w B g r D) (h63 : a ≤ 9223372036854775807) : Calls Try.prog 14 #[.pointer (some ⟨g, 0, none⟩), .int .i64 a, .int .i64 b] w fun e w' => (∃ v, e = .returned v) ∧ IsDisk w' B g r (cut D a b) ∧ Below B w w' ∧ KeepT [46, 52, 54] w w' := by
  obtain ⟨p, hg, _⟩ := h.blk
  by_cases ha : 0 ≤ a
  · have h1 : (if b < 0 then (0 : Int) else b) = max b 0 := by rw [Int.max_def]; split <;> split <;> omega
    obtain ⟨x, hx⟩ : ∃ x : Int, (if b < 0 then (0 : Int) else b) = x := ⟨_, rfl⟩
    obtain ⟨y, hy⟩ : ∃ y : Int, (if (64 : Int) < x then (64 : Int) else x) = y := ⟨_, rfl⟩
    have hyc : clamp b = y := by unfold clamp; rw [← h1, hx, ← hy, Int.min_def]; split <;> split <;> omega
    have HY := Lib.hid hyc
    have HY2 : Hid (0 ≤ y ∧ y ≤ 64) := Lib.hid (by rw [← hyc]; unfold clamp; omega)
    have HA := Lib.hid ha
    have H63 := Lib.hid h63
    have HG := Lib.hid hg
    have HD := Lib.hid h
    have hgq := blk_lt hg
    have HB : Hid (∀ o : Obj, (w.alloc o).cell? ⟨g, 1, none⟩ = some (.pointer p) ∧ (w.alloc o).frozen? ⟨g, 1, none⟩ = false) := Lib.hid (fun o => ⟨(blk_cell (blk_alloc HG.out o) 1).trans rfl, blk_frozen (blk_alloc HG.out o) 1⟩)
    have hcell : ∀ o : Obj, (w.alloc o).cell? ⟨g, 1, none⟩ = some (.pointer p) := fun o => (HB.out o).1
    have hfroz : ∀ o : Obj, (w.alloc o).frozen? ⟨g, 1, none⟩ = false := fun o => (HB.out o).2
    clear h1 hyc hg h h63
    go_enter Try.func14, Try.ntmps14
    go_wp2_with fail
    go_end0
    have e : cut D a b = { D with cut := some (a, y) } := by unfold cut; rw [if_pos HA.out, HY.out]
    rw [e]
    have hk : Kp w (w.setCell ⟨g, 1, none⟩ (.pointer (some ⟨w.heap.size, 0, none⟩))) g := (Kp.refl w g).set 1 _
    have hsz : (w.setCell ⟨g, 1, none⟩ (.pointer (some ⟨w.heap.size, 0, none⟩))).heap.size = w.heap.size := by simp [World.setCell]
    have hnew := blk_new (w.setCell ⟨g, 1, none⟩ (.pointer (some ⟨w.heap.size, 0, none⟩))) (Obj.cells #[Value.int IntKind.i64 a, Value.int IntKind.i64 y] 54)
    rw [hsz] at hnew
    have hrl := blk_lt HD.out.row
    refine ⟨⟨_, rfl⟩, ⟨⟨_, blk_alloc (blk_put HG.out 1 _ rfl) _, ⟨w.heap.size, rfl, HD.out.lt, Nat.ne_of_gt hgq, Nat.ne_of_gt hrl, hnew, HA.out, H63.out, HY2.out.1, HY2.out.2⟩⟩, blk_alloc ((hk.block r hrl (Ne.symm HD.out.ne)).trans HD.out.row) _, HD.out.len, HD.out.byt, HD.out.ne, HD.out.bg, HD.out.br, HD.out.big⟩, below_then (hk.below HD.out.bg HD.out.lt) (by rw [hsz]; exact HD.out.lt) (below_alloc (Below.refl _ _) _), (hk.kt HG.out (by decide)).trans (KeepT.of_below (below_alloc (Below.refl _ _) _))⟩
  · have e : cut D a b = D := by unfold cut; rw [if_neg ha]
    have HD := Lib.hid h
    have HE := Lib.hid e
    clear e h hg
    go_enter Try.func14, Try.ntmps14
    go_wp2_with fail
    go_end0
    exact ⟨⟨_, rfl⟩, by rw [HE.out]; exact HD.out, Below.refl _ _, KeepT.refl _ _⟩
end Go.Proofs.Ytacpeilgjaodbaa
