/- The reference's disk: New. -/
import Derived.Test.YtacpeilgjaodbaaGR
namespace Go.Proofs.Ytacpeilgjaodbaa
open Go.RowKit Go.Proofs.YtacpeilgjaodbaaW.PrintWords Go.Proofs.YtacpeilgjaodbaaW.PrintLast Go.Proofs.YtacpeilgjaodbaaW.PrintMore
attribute [local go_sem] max2_int min2_int max_two min_two
set_option linter.unusedVariables false
set_option linter.unusedSimpArgs false
def z64 : ByteArray := strOfNums (List.replicate 64 0)
theorem zeros_any (w : World) : Calls Try.prog 26 #[.int .i64 64] w fun e w' => e = .returned (.string z64) ∧ Below w.heap.size w w' :=
  QA.watchkeeperref10_zeros.calls 64 z64 w (by unfold QA.watchkeeperref10_zeros.f; rw [if_pos (by decide), if_pos (by decide)]; rfl)
def refCells (v : Value) (down : Bool) (after bytes wrote torn : Int) (was meant : ByteArray) : Array Value := #[v, .bool down, .int .i64 after, .int .i64 bytes, .int .i64 wrote, .int .i64 torn, .string was, .string meant]
def NewRPost (w : World) (n : Nat) (e : Ending) (w' : World) : Prop := ∃ g v, e = .returned (.pointer (some ⟨g, 0, none⟩)) ∧ w.heap.size ≤ g ∧ w'.heap[g]? = some (.cells (refCells v false (-1) 0 0 (-1) ⟨#[]⟩ ⟨#[]⟩) 49 (0, 0)) ∧ Kd.R Kd.string 9 w' w.heap.size (fun _ => True) v (List.replicate n z64) ∧ Below w.heap.size w w'
set_option maxRecDepth 100000 in
set_option maxHeartbeats 4000000 in
theorem rnew_any (m : Int) (w : World) : Calls Try.prog 10 #[.int .i64 m] w (NewRPost w (manyOf m)) := by
  obtain ⟨n, hn⟩ : ∃ n, manyOf m = n := ⟨_, rfl⟩
  have hn2 : n ≤ 256 := by rw [← hn]; unfold manyOf; omega
  have HN := Lib.hid hn
  have h1 : (if m < 1 then (1 : Int) else m) = max m 1 := by rw [Int.max_def]; split <;> split <;> omega
  obtain ⟨x, hx⟩ : ∃ x : Int, (if m < 1 then (1 : Int) else m) = x := ⟨_, rfl⟩
  have h2 : (if (256 : Int) < x then (256 : Int) else x) = (n : Int) := by rw [← hn]; unfold manyOf; rw [← h1, hx]; rw [Int.min_def]; split <;> split <;> omega
  have hn3 : (n : Int) ≤ 256 := by omega
  clear h1 hn
  go_enter Try.func10, Try.ntmps10
  go_wp2_with fail
  have hnb := blk_new w (.cells (refCells (.slice none 0 0) false (-1) 0 0 (-1) ⟨#[]⟩ ⟨#[]⟩) 49)
  obtain ⟨g, hg⟩ : ∃ g, w.heap.size = g := ⟨_, rfl⟩
  have HGE : Hid (w.heap.size ≤ g) := Lib.hid (by omega)
  have H0 : Hid (∃ v0, (w.alloc (.cells (refCells (.slice none 0 0) false (-1) 0 0 (-1) ⟨#[]⟩ ⟨#[]⟩) 49)).heap[g]? = some (.cells (refCells v0 false (-1) 0 0 (-1) ⟨#[]⟩ ⟨#[]⟩) 49 (0, 0)) ∧ Kd.R Kd.string 9 (w.alloc (.cells (refCells (.slice none 0 0) false (-1) 0 0 (-1) ⟨#[]⟩ ⟨#[]⟩) 49)) w.heap.size (fun _ => True) v0 (List.replicate 0 z64)) := Lib.hid ⟨_, by rw [← hg]; exact hnb, Kd.R_nil _ _ _ _ _⟩
  have HB0 := Lib.hid (below_alloc (Below.refl w.heap.size w) (.cells (refCells (.slice none 0 0) false (-1) 0 0 (-1) ⟨#[]⟩ ⟨#[]⟩) 49))
  rw [hg]
  clear hg hnb
  go_loopg [4] n (fun kq v4 w' => ∃ (i : Nat), v4 = .int .i64 (i : Int) ∧ Hid (i ≤ n ∧ kq = n - i) ∧ Hid (∃ v0, w'.heap[g]? = some (.cells (refCells v0 false (-1) 0 0 (-1) ⟨#[]⟩ ⟨#[]⟩) 49 (0, 0)) ∧ Kd.R Kd.string 9 w' w.heap.size (fun _ => True) v0 (List.replicate i z64)) ∧ Hid (Below w.heap.size w w'))
  case atStart => exact ⟨0, rfl, Lib.hid ⟨by omega, by omega⟩, H0, HB0⟩
  case round =>
    clear H0 HB0
    obtain ⟨i, rfl, HA, HR, HB⟩ := hrel
    obtain ⟨v0, hg, hr⟩ := HR.out
    have HG := Lib.hid hg
    clear HR hg
    by_cases hi : (i : Int) < (n : Int)
    · have hiN : i < n := by omega
      have HR := Lib.hid hr
      have HL : Hid (((List.replicate i z64).length + 1) * 16 ≤ 140737488355328) := Lib.hid (by rw [List.length_replicate]; omega)
      clear hr
      go_wp2_with fail
      refine start_ (n := 11) (S := fun w' => w'.cell? ⟨g, 0, none⟩ = some v0) (ds := [10]) #[false, false, false, false, false, false, false, false, false, false, false] (by kernel_rfl) rfl rfl (((blk_cell HG.out 0).trans rfl)) (fun hHeld => ?_)
      refine pure_ (i := 0) (N := some 14) (v := ?_) (a' := ?_) #[true, false, false, false, false, false, false, false, false, false, false] rfl rfl (by kernel_rfl) (fun _ _ _ h => h) (Or.inl ⟨by rfl, ?_⟩) ?_ ?_
      rotate_left
      · intro w'
        go_simp
        with_reducible rfl
      rotate_left
      · simp only [Act.put, List.setIfInBounds_toArray, List.set_cons_zero, List.set_cons_succ, i64_w, i32_w]
        rfl
      refine pure_ (i := 1) (N := some 15) (v := ?_) (a' := ?_) #[true, true, false, false, false, false, false, false, false, false, false] rfl rfl (by kernel_rfl) (fun _ _ _ h => h) (Or.inl ⟨by rfl, ?_⟩) ?_ ?_
      rotate_left
      · intro w'
        go_simp
        with_reducible rfl
      rotate_left
      · simp only [Act.put, List.setIfInBounds_toArray, List.set_cons_zero, List.set_cons_succ, i64_w, i32_w]
        rfl
      refine pure_ (i := 2) (N := some 16) (v := ?_) (a' := ?_) #[true, true, true, false, false, false, false, false, false, false, false] rfl rfl (by kernel_rfl) (fun _ _ _ h => h) (Or.inl ⟨by rfl, ?_⟩) ?_ ?_
      rotate_left
      · intro w'
        go_simp
        with_reducible rfl
      rotate_left
      · simp only [Act.put, List.setIfInBounds_toArray, List.set_cons_zero, List.set_cons_succ, i64_w, i32_w]
        rfl
      refine pure_ (i := 3) (N := some 17) (v := ?_) (a' := ?_) #[true, true, true, true, false, false, false, false, false, false, false] rfl rfl (by kernel_rfl) (fun _ _ _ h => h) (Or.inl ⟨by rfl, ?_⟩) ?_ ?_
      rotate_left
      · intro w'
        go_simp
        with_reducible rfl
      rotate_left
      · simp only [Act.put, List.setIfInBounds_toArray, List.set_cons_zero, List.set_cons_succ, i64_w, i32_w]
        rfl
      refine take_ (i := 4) (N := some 18) (v := ?_) (a' := ?_) #[true, true, true, true, true, false, false, false, false, false, false] rfl rfl (by kernel_rfl) (fun _ _ _ h => h) (Or.inl ⟨by rfl, ?_⟩) hHeld ?_ ?_
      rotate_left
      · intro w' s0
        go_simp
        with_reducible rfl
      rotate_left
      · simp only [Act.put, List.setIfInBounds_toArray, List.set_cons_zero, List.set_cons_succ, i64_w, i32_w]
        rfl
      refine one_ (i := 5) (N := some 19) #[true, true, true, true, true, true, false, false, false, false, false] rfl rfl (by kernel_rfl) (by decide) (fun K hK => ?_)
      refine goes_ Try.func26 (by kernel_rfl) rfl #[.int .i64 64] (by rfl) rfl rfl (by simp only [List.map_toArray, List.map_cons, List.map_nil]; rfl) ?_
      with_reducible refine (zeros_any _).mono ?_
      rintro e w5 ⟨rfl, hb5⟩
      refine ⟨_, rfl, ?_⟩
      have hb5' := below_then (below_drew (Below.refl wr.heap.size wr)) (Nat.le_refl _) hb5
      have HR5 := Lib.hid (Kd.R_below HR.out hb5')
      have HB5 := Lib.hid (below_then HB.out HB.out.size hb5')
      have HG5 := Lib.hid (blk_below HG.out hb5')
      clear hb5 hb5'
      refine hK.out _ _ (((blk_cell HG5.out 0).trans rfl)) (fun hHeld => ?_)
      clear hK K
      refine norm_ (a' := ?_) ?_ ?_
      rotate_left
      · show Act.put _ (some 19) _ = _
        simp only [Act.put, List.setIfInBounds_toArray, List.set_cons_zero, List.set_cons_succ, i64_w, i32_w]
        rfl
      refine one_ (i := 6) (N := some 20) #[true, true, true, true, true, true, true, false, false, false, false] rfl rfl (by kernel_rfl) (by decide) (fun K hK => ?_)
      refine value_ (w1 := ?_) (v := ?_) (by rfl) rfl ?_ ?_
      rotate_left 2
      · go_simp
        constructor
        · rfl
        · rfl
      refine hK.out _ _ (((blk_cell (blk_alloc HG5.out (.cells #[.string z64] 9)) 0).trans rfl)) (fun hHeld => ?_)
      clear hK K
      refine norm_ (a' := ?_) ?_ ?_
      rotate_left
      · show Act.put _ (some 20) _ = _
        simp only [Act.put, List.setIfInBounds_toArray, List.set_cons_zero, List.set_cons_succ, i64_w, i32_w]
        rfl
      refine one_ (i := 7) (N := some 21) #[true, true, true, true, true, true, true, true, false, false, false] rfl rfl (by kernel_rfl) (by decide) (fun K hK => ?_)
      refine Kd.R_append_step Kd.string (w0 := w) w.heap.size (by rfl) (.tmp 18) (.tmp 20) 47 9 (.string ⟨#[]⟩) 16 rfl Try.underlying47 QA.info9 rfl (by decide) (by omega) v0 (List.replicate i z64) z64 [.string z64] (fun _ => True) (fun _ => False) (by rfl) (by rfl) rfl (fun _ h => h.elim) (fun _ _ => trivial) HR5.out HB5.out HB5.out.size HL.out ?_
      intro v7 w7 ho hb hg hat
      obtain ⟨A7, d7, rfl⟩ := Kd.R_slice ho
      have hne := Kd.R_ne HR5.out HG5.out (by decide)
      have HG7 := Lib.hid (blk_grown HG5.out hg hne)
      have hc0 := (blk_cell HG7.out 0).trans (show _ = some v0 from rfl)
      have hf0 := blk_frozen HG7.out 0
      refine hK.out _ _ (hc0) (fun hHeld => ?_)
      clear hK K
      refine norm_ (a' := ?_) ?_ ?_
      rotate_left
      · show Act.put _ (some 21) _ = _
        simp only [Act.put, List.setIfInBounds_toArray, List.set_cons_zero, List.set_cons_succ, i64_w, i32_w]
        rfl
      refine pure_ (i := 8) (N := some 22) (v := ?_) (a' := ?_) #[true, true, true, true, true, true, true, true, true, false, false] rfl rfl (by kernel_rfl) (fun _ _ _ h => h) (Or.inl ⟨by rfl, ?_⟩) ?_ ?_
      rotate_left
      · intro w'
        go_simp
        with_reducible rfl
      rotate_left
      · simp only [Act.put, List.setIfInBounds_toArray, List.set_cons_zero, List.set_cons_succ, i64_w, i32_w]
        rfl
      refine pure_ (i := 9) (N := some 23) (v := ?_) (a' := ?_) #[true, true, true, true, true, true, true, true, true, true, false] rfl rfl (by kernel_rfl) (fun _ _ _ h => h) (Or.inl ⟨by rfl, ?_⟩) ?_ ?_
      rotate_left
      · intro w'
        go_simp
        with_reducible rfl
      rotate_left
      · simp only [Act.put, List.setIfInBounds_toArray, List.set_cons_zero, List.set_cons_succ, i64_w, i32_w]
        rfl
      refine last_ (i := 10) (N := none) #[true, true, true, true, true, true, true, true, true, true, true] rfl rfl (by kernel_rfl) (by decide) (fun K hK => ?_)
      refine skip_ (w1 := ?_) (by rfl) rfl ?_ ?_
      rotate_left
      · go_simp
        rfl
      refine hK.out _ _ ?_
      clear hK K
      refine done_ (by kernel_rfl) ?_
      go_wp2_with fail
      go_roundg (n - (i + 1))
      case measure => have := HA.out; omega
      case rel =>
        have h8 := Kd.R_set ho HG7.out (by decide) 0 (.slice A7 (i + 1) d7)
        rw [show (List.replicate i z64 ++ [z64]).length = i + 1 from by simp] at h8
        exact ⟨i + 1, by go_num, Lib.hid ⟨by omega, rfl⟩, Lib.hid ⟨_, blk_put HG7.out 0 _ rfl, by rw [List.replicate_succ']; exact h8⟩, Lib.hid (hb.setCell (p := ⟨g, 0, none⟩) HGE.out _)⟩
    · obtain rfl : i = n := by have := HA.out; omega
      have HR := Lib.hid hr
      clear hr
      go_wp2_with fail
      go_ret
      exact ⟨g, v0, rfl, HGE.out, HG.out, by rw [HN.out]; exact HR.out, HB.out⟩
end Go.Proofs.Ytacpeilgjaodbaa
