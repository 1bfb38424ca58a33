/- New of the delay layer. -/
import Derived.Test.YtljabocijojceaaA1
namespace Go.Proofs.Ytljabocijojceaa
open Go.RowKit
attribute [local go_sem] max_i min_i

def clampT (n : Int) : Int := min (max n 0) 1099511627776
def newCells (on off : Int) : Nat → Array Value
  | 0 => #[.int .i64 off, .int .i64 on, .bool false, .int .i64 (-1), .int .i64 0]
  | 1 => #[.int .i64 (clampT off), .int .i64 on, .bool false, .int .i64 (-1), .int .i64 0]
  | _ => #[.int .i64 (clampT off), .int .i64 (clampT on), .bool false, .int .i64 (-1), .int .i64 0]

set_option maxHeartbeats 800000 in
theorem new_any (on off : Int) (w : World) :
    Calls Try.prog 9 #[.int .i64 on, .int .i64 off] w fun e w' => e = .returned (.pointer (some ⟨w.heap.size, 0, none⟩)) ∧ Dl w' w.heap.size ⟨clampT off, clampT on, false, -1, 0⟩ ∧ Below w.heap.size w w' := by
  go_enter Try.func9, Try.ntmps9
  go_wp2
  go_loopw [17] (fun i wr => ∃ k : Nat, k ≤ 2 ∧ i = .int .i64 k ∧ Blk wr w.heap.size 44 (newCells on off k) ∧ Below w.heap.size w wr) (fun i _ => 2 - (intOf i).toNat)
  case atStart => exact ⟨0, by omega, rfl, Blk.new w 44 _, (Below.refl _ _).alloc (Nat.le_refl _) _⟩
  case round =>
    obtain ⟨k, hk, rfl, hd, hb⟩ := hrel
    have i0 : ∀ w, (Instr.index 42 (.agg #[.int .i64 off, .int .i64 on]) (.int .i64 0)).run Try.prog w = .ok (.int .i64 off) w := fun _ => by kernel_rfl
    have i1 : ∀ w, (Instr.index 42 (.agg #[.int .i64 off, .int .i64 on]) (.int .i64 1)).run Try.prog w = .ok (.int .i64 on) w := fun _ => by kernel_rfl
    obtain rfl | rfl | rfl : k = 0 ∨ k = 1 ∨ k = 2 := by omega
    · have c0 : wr.cell? ⟨w.heap.size, 0, none⟩ = some (.int .i64 off) := hd.cell 0
      have f0 := hd.frozen 0
      have Hd := Lib.hid hd
      have Hb := Lib.hid hb
      clear hd hb
      go_wp2
      go_roundw
      case rel => exact ⟨1, by omega, rfl, by simpa [newCells, clampT] using Hd.out.set_ 0 (.int .i64 (clampT off)), Hb.out.setCell (Nat.le_refl _) _⟩
      case measure => simp [intOf]
    · have c0 : wr.cell? ⟨w.heap.size, 1, none⟩ = some (.int .i64 on) := hd.cell 1
      have f0 := hd.frozen 1
      have Hd := Lib.hid hd
      have Hb := Lib.hid hb
      clear hd hb
      go_wp2
      go_roundw
      case rel => exact ⟨2, by omega, rfl, by simpa [newCells, clampT] using Hd.out.set_ 1 (.int .i64 (clampT on)), Hb.out.setCell (Nat.le_refl _) _⟩
      case measure => simp [intOf]
    · have Hd := Lib.hid hd
      have Hb := Lib.hid hb
      clear hd hb
      go_wp2
      go_ret
      exact ⟨rfl, Hd.out, Hb.out⟩
end Go.Proofs.Ytljabocijojceaa
