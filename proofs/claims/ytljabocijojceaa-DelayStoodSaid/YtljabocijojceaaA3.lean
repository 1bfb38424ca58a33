/- New of the document's delay. -/
import Derived.Test.YtljabocijojceaaA2
namespace Go.Proofs.Ytljabocijojceaa
open Go.RowKit
attribute [local go_sem] max_i min_i
set_option maxHeartbeats 800000 in
theorem rnew_any (on off : Int) (w : World) :
    Calls Try.prog 10 #[.int .i64 on, .int .i64 off] w fun e w' => e = .returned (.pointer (some ⟨w.heap.size, 0, none⟩)) ∧ Blk w' w.heap.size 47 #[.int .i64 (clampT on), .int .i64 (clampT off), .bool false, .bool false, .int .i64 0, .int .i64 0] ∧ Below w.heap.size w w' := by
  go_enter Try.func10, Try.ntmps10
  go_wp2
  go_ret
  exact ⟨rfl, Blk.new w 47 _, (Below.refl _ _).alloc (Nat.le_refl _) _⟩
end Go.Proofs.Ytljabocijojceaa
