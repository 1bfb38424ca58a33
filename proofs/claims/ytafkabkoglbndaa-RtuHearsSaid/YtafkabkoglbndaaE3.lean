/- The reference's Hear, by hand. -/
import Derived.Test.YtafkabkoglbndaaE2
namespace Go.Proofs.Ytafkabkoglbndaa
open Go.RowKit Go.Proofs.YtafkabkoglbndaaW.PrintWords Go.Proofs.YtafkabkoglbndaaW.PrintLast Go.Proofs.YtafkabkoglbndaaW.PrintMore
set_option linter.unusedVariables false
set_option linter.unusedSimpArgs false
set_option maxRecDepth 100000 in
set_option maxHeartbeats 4000000 in
theorem rhear_any (g gx : Nat) (xs : List Int) (A : Option Addr) (c : Nat) (b : List Int) (w : World) (h : IsRef w g gx xs) (hgx : gx < w.heap.size) (hr : Kd.C (Kd.int .u8) w A b.length b) (hn : xs.length + b.length < 1000000000) :
    Calls Try.prog 20 #[.pointer (some ⟨g, 0, none⟩), .slice A b.length c] w fun e w' => (∃ v, e = .returned v) ∧ IsRef w' g gx (xs ++ b) ∧ Kp w w' g := by
  obtain ⟨A0, c0, hg, hc0, hC, hA⟩ := h.ex
  have hne := h.ne
  have HG := Lib.hid hg
  have HR0 := Lib.hid hC
  have HR1 := Lib.hid hr
  have HL1 : Hid (([] : List Int).length + xs.length < 140737488355328) := Lib.hid (by simp; omega)
  have HL2 : Hid ((([] : List Int) ++ xs).length + b.length < 140737488355328) := Lib.hid (by simp; omega)
  have HB := Lib.hid (Below.refl w.heap.size w)
  clear hg hC hr h hA hn
  go_enter Try.func20, Try.ntmps20
  go_wp2_with (first | ((with_reducible refine gate_dst (N := 5) rfl ?_); refine Kd.R_lit (Kd.int .u8) _ 5 ?hg (N := 5) ?hd (xs := ([] : List Int)) (inner := []) (ok := fun _ => True) (okp := fun _ => True) ?hr ?hp (fun _ hk => hk) trivial (Below.refl _ _) (Nat.le_refl _) (by simp) ?_; (case hd => rfl); (case hg => rfl); (case hr => first | (go_simp; done) | (go_simp; rfl)); (case hp => exact (Reps.none _ _)); intro v5 w5 ho5 hb5 hg_ hnew_; clear hg_ hnew_; have n0_ := Lib.hid (Kd.R_lower ho5 (below_size (by repeat (first | (with_reducible first | exact HB.out | apply below_alloc | apply pw_below_drewN | apply below_drew1) | exact HB.out)))); have n1_ := Lib.hid (below_step (by repeat (first | (with_reducible first | exact HB.out | apply below_alloc | apply pw_below_drewN | apply below_drew1) | exact HB.out)) hb5); clear HB; have HO5 := n0_; have HB := n1_; clear n0_ n1_ ho5 hb5; have hcell5 : w5.cell? ⟨g, 0, none⟩ = some (.slice A0 xs.length c0) := (blk_cell (blk_below HG.out HB.out) 0).trans rfl) | ((with_reducible refine gate_builtin (b := .append) (xs := #[.tmp 5, .tmp 9]) rfl ?_); at_builtin; refine Kd.R_append_rows (Kd.int .u8) (w0 := w) w.heap.size rfl (.tmp 5) (.tmp 9) 22 5 (.int .u8 0) 1 rfl Try.underlying22 infob5 rfl (by decide) (by omega) v5 ([] : List Int) xs _ _ _ (fun _ => True) (fun _ => False) rfl rfl ?aO ?aR (fun _ _ h => h) (fun _ h => h.elim) ?aF ?aB ?aS ?aL ?_; (case aR => repeat (first | exact (Kd.C_below HR0.out HB.out) | (with_reducible refine Kd.C_alloc ?_ _) | (with_reducible refine Kd.C_drewN ?_ _) | (with_reducible refine Kd.C_drew ?_))); (case aB => exact (by repeat (first | (with_reducible first | exact HB.out | apply below_alloc | apply pw_below_drewN | apply below_drew1) | exact HB.out))); (case aF => exact (fun _ _ => trivial)); (case aO => exact (by (with_reducible repeat (first | apply Kd.R_alloc | apply Kd.R_drewN | apply Kd.R_drew)); exact HO5.out)); (case aS => exact (below_size (by repeat (first | (with_reducible first | exact HB.out | apply below_alloc | apply pw_below_drewN | apply below_drew1) | exact HB.out)))); (case aL => have := HL1.out; omega); intro v7 w7 ho hb hg_ hat; have n0_ := Lib.hid hb; have n1_ := Lib.hid ho; clear HB HO5; have HB := n0_; have HO7 := n1_; clear n0_ n1_ ho hb hg_ hat) | ((with_reducible refine gate_builtin (b := .append) (xs := #[.tmp 10, .tmp 11]) rfl ?_); at_builtin; refine Kd.R_append_rows (Kd.int .u8) (w0 := w) w.heap.size rfl (.tmp 10) (.tmp 11) 22 5 (.int .u8 0) 1 rfl Try.underlying22 infob5 rfl (by decide) (by omega) v7 ([] ++ xs) b _ _ _ (fun _ => True) (fun _ => False) rfl rfl ?aO ?aR (fun _ _ h => h) (fun _ h => h.elim) ?aF ?aB ?aS ?aL ?_; (case aR => repeat (first | exact (Kd.C_below HR1.out HB.out) | (with_reducible refine Kd.C_alloc ?_ _) | (with_reducible refine Kd.C_drewN ?_ _) | (with_reducible refine Kd.C_drew ?_))); (case aB => exact (by repeat (first | (with_reducible first | exact HB.out | apply below_alloc | apply pw_below_drewN | apply below_drew1) | exact HB.out))); (case aF => exact (fun _ _ => trivial)); (case aO => exact (by (with_reducible repeat (first | apply Kd.R_alloc | apply Kd.R_drewN | apply Kd.R_drew)); exact HO7.out)); (case aS => exact (below_size (by repeat (first | (with_reducible first | exact HB.out | apply below_alloc | apply pw_below_drewN | apply below_drew1) | exact HB.out)))); (case aL => have := HL2.out; omega); intro v10 w10 ho hb hg_ hat; have n0_ := Lib.hid hb; have n1_ := Lib.hid ho; clear HB HO7; have HB := n0_; have HO10 := n1_; clear n0_ n1_ ho hb hg_ hat; obtain ⟨A10, c10, eo⟩ := Kd.R_slice HO10.out; subst eo; have HK10 := Lib.hid (blk_below HG.out HB.out); have hf10 := blk_frozen HK10.out 0; have hcell10 : w10.cell? ⟨g, 0, none⟩ = some (.slice A0 xs.length c0) := (blk_cell HK10.out 0).trans rfl))
  go_end0
  have ho : Kd.R (Kd.int .u8) 5 w10 w.heap.size (fun _ => True) (.slice A10 (xs ++ b).length c10) (xs ++ b) := HO10.out
  have hk : Kp w10 (w10.setCell ⟨g, 0, none⟩ (.slice A10 (xs.length + b.length) c10)) g := (Kp.refl w10 g).set 0 _
  obtain ⟨_, h2, h3⟩ := Kd.R_reads' ho
  have hfr : (xs ++ b).length = 0 ∨ ∀ ad, A10 = some ad → ad.block ≠ gx := by
    obtain ⟨_, ⟨e1, h0⟩ | ⟨g', c', cur, e1, hg', _⟩⟩ := Kd.own_of_R ho
    · exact Or.inl (by rw [h0])
    · refine Or.inr (fun ad e => ?_)
      injection e1 with e2 _ _
      rw [e] at e2
      injection e2 with e2
      rw [e2]
      have : gx < g' := Nat.lt_of_lt_of_le hgx hg'
      exact Nat.ne_of_gt this
  refine ⟨⟨_, rfl⟩, ⟨⟨A10, c10, ?_, h2, C_kr HK10.out h3 hk, hfr⟩, hne⟩, (Kp.of_below HB.out g).trans hk⟩
  rw [List.length_append]
  exact blk_put HK10.out 0 _ rfl
end Go.Proofs.Ytafkabkoglbndaa
