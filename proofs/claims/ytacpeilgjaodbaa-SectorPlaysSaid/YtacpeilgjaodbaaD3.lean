/- slices.Clone, slices.Grow and slices.Concat at bytes. -/
import Derived.Test.YtacpeilgjaodbaaD2
import Derived.Lib.AppendZerosOnto
import Derived.Lib.SliceRun
namespace Go.Proofs.Ytacpeilgjaodbaa
open Go.RowKit Go.Proofs.YtacpeilgjaodbaaW.PrintWords Go.Proofs.YtacpeilgjaodbaaW.PrintLast
theorem infob : (Try.prog.info? 5).map (fun i => (i.zero, i.size, i.bytes)) = some (some (.int .u8 0), 1, 1) := by kernel_rfl

theorem R_empty (w : World) (base g cap : Nat) (cs : Array Value) (hb : base ≤ g) (hg : w.heap[g]? = some (.cells cs 5 (0, 0))) (hc : cs.size = cap) (hm : cap ≤ maxLen) : Kd.R (Kd.int .u8) 5 w base (fun _ => True) (.slice (some ⟨g, 0, none⟩) 0 cap) [] :=
  Kd.R_of_own (xs := []) ⟨rfl, .inr ⟨g, cap, cs, rfl, hb, hg, Nat.zero_le _, hm, by omega, by simp [encs]⟩⟩ (fun _ _ => trivial)

theorem eql29 (w : World) (a : Option Addr) (n c n' c' : Nat) : (binOp .eql 29 (.slice a n c) (.slice none n' c')).run Try.prog w = .ok (.bool a.isNone) w := Lib.run_eql_slice_nil w _ _ a n c n' c' Try.underlying29
set_option maxRecDepth 100000 in
set_option maxHeartbeats 2000000 in
theorem clone_any (A : Option Addr) (c : Nat) (l : List Int) (w : World) (hn : l.length < 140737488355328) (hr : Kd.C (Kd.int .u8) w A l.length l) :
    Calls Try.prog 27 #[.slice A l.length c] w fun e w' => ∃ v, e = .returned v ∧ Kd.R (Kd.int .u8) 5 w' w.heap.size (fun _ => True) v l ∧ Below w.heap.size w w' := by
  have E := eql29
  cases A with
  | none =>
    have hl : l = [] := by
      cases l with
      | nil => rfl
      | cons x l => obtain ⟨ad, h, _⟩ := hr.2.2 (by simp); cases h
    subst hl
    go_enter Try.func27, Try.ntmps27
    go_wp2_with fail
    go_ret
    exact ⟨_, rfl, Kd.R_nil _ _ _ _ _, Below.refl _ _⟩
  | some a =>
    have HR := Lib.hid hr
    clear hr
    have HE : Hid (Kd.R (Kd.int .u8) 5 (w.alloc (.cells #[] 5)) w.heap.size (fun _ => True) (.slice (some ⟨w.heap.size, 0, none⟩) 0 0) []) := Lib.hid (R_empty _ _ _ 0 #[] (Nat.le_refl _) (blk_new _ _) rfl (by decide))
    go_enter Try.func27, Try.ntmps27
    go_wp2_with (at_builtin; refine Kd.R_append_rows (Kd.int .u8) (w0 := w) w.heap.size rfl (.tmp 5) (.tmp 6) 29 5 (.int .u8 0) 1 rfl Try.underlying29 infob rfl (by decide) (by omega) _ [] l _ _ _ (fun _ => True) (fun _ => False) rfl rfl HE.out (Kd.C_alloc HR.out _) (fun _ _ h => h) (fun _ h => h.elim) (fun _ _ => trivial) (below_alloc (Below.refl _ _) _) (by simp) (by simp; omega) ?_; intro v1 w1 ho hb hg hat)
    go_ret
    exact ⟨_, rfl, ho, hb⟩
end Go.Proofs.Ytacpeilgjaodbaa
