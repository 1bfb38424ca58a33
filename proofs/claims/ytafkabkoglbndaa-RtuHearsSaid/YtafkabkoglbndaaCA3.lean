/- slices.Clone, slices.Grow and slices.Concat at bytes. -/
import Derived.Test.YtafkabkoglbndaaCA2
import Derived.Lib.AppendZerosOnto
import Derived.Lib.SliceRun
namespace Go.Proofs.Ytafkabkoglbndaa
open Go.RowKit Go.Proofs.YtafkabkoglbndaaW.PrintWords Go.Proofs.YtafkabkoglbndaaW.PrintLast
theorem infob : (Try.prog.info? 5).map (fun i => (i.zero, i.size, i.bytes)) = some (some (.int .u8 0), 1, 1) := by kernel_rfl

theorem R_empty (w : World) (base g cap : Nat) (cs : Array Value) (hb : base ≤ g) (hg : w.heap[g]? = some (.cells cs 5 (0, 0))) (hc : cs.size = cap) (hm : cap ≤ maxLen) : Kd.R (Kd.int .u8) 5 w base (fun _ => True) (.slice (some ⟨g, 0, none⟩) 0 cap) [] :=
  Kd.R_of_own (xs := []) ⟨rfl, .inr ⟨g, cap, cs, rfl, hb, hg, Nat.zero_le _, hm, by omega, by simp [encs]⟩⟩ (fun _ _ => trivial)

theorem eql22 (w : World) (a : Option Addr) (n c n' c' : Nat) : (binOp .eql 22 (.slice a n c) (.slice none n' c')).run Try.prog w = .ok (.bool a.isNone) w := Lib.run_eql_slice_nil w _ _ a n c n' c' Try.underlying22
set_option maxRecDepth 100000 in
set_option maxHeartbeats 2000000 in
theorem clone_any (A : Option Addr) (c : Nat) (l : List Int) (w : World) (hn : l.length < 140737488355328) (hr : Kd.C (Kd.int .u8) w A l.length l) :
    Calls Try.prog 29 #[.slice A l.length c] w fun e w' => ∃ v, e = .returned v ∧ Kd.R (Kd.int .u8) 5 w' w.heap.size (fun _ => True) v l ∧ Below w.heap.size w w' := by
  have E := eql22
  cases A with
  | none =>
    have hl : l = [] := by
      cases l with
      | nil => rfl
      | cons x l => obtain ⟨ad, h, _⟩ := hr.2.2 (by simp); cases h
    subst hl
    go_enter Try.func29, Try.ntmps29
    go_wp2_with fail
    go_ret
    exact ⟨_, rfl, Kd.R_nil _ _ _ _ _, Below.refl _ _⟩
  | some a =>
    have HR := Lib.hid hr
    clear hr
    have HE : Hid (Kd.R (Kd.int .u8) 5 (w.alloc (.cells #[] 5)) w.heap.size (fun _ => True) (.slice (some ⟨w.heap.size, 0, none⟩) 0 0) []) := Lib.hid (R_empty _ _ _ 0 #[] (Nat.le_refl _) (blk_new _ _) rfl (by decide))
    go_enter Try.func29, Try.ntmps29
    go_wp2_with (at_builtin; refine Kd.R_append_rows (Kd.int .u8) (w0 := w) w.heap.size rfl (.tmp 5) (.tmp 6) 22 5 (.int .u8 0) 1 rfl Try.underlying22 infob rfl (by decide) (by omega) _ [] l _ _ _ (fun _ => True) (fun _ => False) rfl rfl HE.out (Kd.C_alloc HR.out _) (fun _ _ h => h) (fun _ h => h.elim) (fun _ _ => trivial) (below_alloc (Below.refl _ _) _) (by simp) (by simp; omega) ?_; intro v1 w1 ho hb hg hat)
    go_ret
    exact ⟨_, rfl, ho, hb⟩
set_option maxRecDepth 100000 in
set_option maxHeartbeats 2000000 in
theorem grow_any (n : Nat) (w : World) (hn : n ≤ 2000000) :
    Calls Try.prog 32 #[.slice none 0 0, .int .i64 n] w fun e w' => ∃ v, e = .returned v ∧ Kd.R (Kd.int .u8) 5 w' w.heap.size (fun _ => True) v [] ∧ Below w.heap.size w w' := by
  have h1 : ¬ ((n : Int) < 0) := by omega
  have h3 : wrap64 ((n : Int) - 0) = (n : Int) := by unfold wrap64; omega
  by_cases h0 : n = 0
  · subst h0
    go_enter Try.func32, Try.ntmps32
    go_wp2_with fail
    go_ret
    exact ⟨_, rfl, Kd.R_nil _ _ _ _ _, Below.refl _ _⟩
  · have h4 : (n : Int) > 0 := by omega
    obtain ⟨i, hi, hz, hs, hby⟩ := info_parts infob
    have hrz : ∀ ty, (Builtin.append_ #[22, 3] ty #[.slice none 0 0, .int .i64 (n : Int)]).run Try.prog w = _ := fun ty => Lib.run_append_grow_zeros w 22 3 ty 5 i (.int .u8 0) .i64 .i64 Try.underlying22 Try.underlying3 hi hz none 0 0 [] (run_firstCells_none w.drew i.size 0 0 0) n (by omega) (by omega) (by omega) (by omega) (by rw [hby]; omega) (growslice_fits (by omega) (by rw [hby]; omega))
    obtain ⟨G, hG⟩ : ∃ G, G = grownCap w (0 + n) 0 5 := ⟨_, rfl⟩
    rw [← hG] at hrz
    have hGn : 0 + n ≤ G := by rw [hG]; exact grownCap_ge w _ _ _
    have hG63 : G ≤ maxLen := by rw [hG]; exact grownCap_le_maxLen w (0 + n) 0 5 (by unfold maxLen; omega)
    clear hG
    go_enter Try.func32, Try.ntmps32
    go_wp2_with (at_builtin; refine Lib.wpList_append_run _ rfl _ _ _ _ rfl _ _ rfl rfl _ _ (hrz _) ?_)
    go_ret
    refine ⟨_, rfl, Kd.R_drew (R_empty _ _ _ G _ (Nat.le_refl _) (blk_new _ _) ?_ hG63), below_drew (below_alloc (Below.refl _ _) _)⟩
    simp [Go.size_zeroCells]; omega

def rdL (xs : List (List Int)) (i : Int) : List Int := xs.getD i.toNat ([] : List Int)
theorem at_L {w : World} {A : Option Addr} {n : Nat} {xs : List (List Int)} (h : Kd.C (Kd.slice 5 (Kd.int .u8)) w A n xs) (i : Int) (h0 : 0 ≤ i) (h1 : i < n) : ∃ ad A0 c0, A = some ad ∧ w.cell? (ad.add i.toNat) = some (.slice A0 (rdL xs i).length c0) ∧ (Kd.int .u8).C w A0 (rdL xs i).length (rdL xs i) := by
  obtain ⟨ad, c, e, _, hK, hc0⟩ := Kd.C_get h ([] : List Int) i h0 h1
  have hc : ∀ j u, c[j]? = some u → w.cell? (ad.add (i.toNat * 1 + j)) = some u := hc0
  obtain ⟨A0, c0, rfl, l0, g0⟩ := hK
  exact ⟨ad, A0, c0, e, by have hq := hc 0 _ rfl; rwa [Nat.mul_one, Nat.add_zero] at hq, g0⟩
theorem flat_take (xs : List (List Int)) (k : Nat) (hk : k < xs.length) : (xs.take (k + 1)).flatten = (xs.take k).flatten ++ rdL xs k := by
  have e : rdL xs k = xs[k] := by unfold rdL; simp [List.getD_eq_getElem?_getD, List.getElem?_eq_getElem hk]
  rw [e, List.take_succ_eq_append_getElem hk, List.flatten_append]; simp
def flen (xs : List (List Int)) : Nat := xs.flatten.length
theorem flen_take (xs : List (List Int)) (k : Nat) (hk : k < xs.length) : flen (xs.take (k + 1)) = flen (xs.take k) + (rdL xs k).length := by
  unfold flen; rw [flat_take xs k hk, List.length_append]
theorem flen_le (xs : List (List Int)) (k : Nat) : flen (xs.take k) ≤ flen xs := by
  have := congrArg (fun l : List (List Int) => l.flatten.length) (List.take_append_drop k xs)
  simp only [List.flatten_append, List.length_append] at this
  unfold flen; omega
set_option maxRecDepth 100000 in
set_option maxHeartbeats 2000000 in
theorem concat_any (A : Option Addr) (c : Nat) (xs : List (List Int)) (w : World) (hn : flen xs ≤ 2000000) (hx : xs.length ≤ 1000000) (hr : Kd.C (Kd.slice 5 (Kd.int .u8)) w A xs.length xs) :
    Calls Try.prog 30 #[.slice A xs.length c] w fun e w' => ∃ v, e = .returned v ∧ Kd.R (Kd.int .u8) 5 w' w.heap.size (fun _ => True) v xs.flatten ∧ Below w.heap.size w w' := by
  have HR := Lib.hid hr
  clear hr
  go_enter Try.func30, Try.ntmps30
  go_wp2_with fail
  go_loopw [3, 5, 11] (fun v3 _ i wr => ∃ k : Nat, k ≤ xs.length ∧ i = .int .i64 k ∧ v3 = .int .i64 (flen (xs.take k) : Nat) ∧ w = wr) (fun _ _ i _ => xs.length - (intOf i).toNat)
  case atStart => exact ⟨0, Nat.zero_le _, rfl, rfl, rfl⟩
  case round =>
    obtain ⟨k, hk, rfl, rfl, rfl⟩ := hrel
    by_cases hlt : k < xs.length
    · obtain ⟨ad, A0, c0, rfl, hx, hxr⟩ := at_L HR.out (k : Int) (by omega) (by omega)
      clear hxr
      simp only [Int.toNat_natCast] at hx
      have hf := flen_take xs k hlt
      have hfl := flen_le xs (k + 1)
      rw [hf] at hfl
      have HF := Lib.hid hf
      clear hf
      generalize flen (xs.take k) = s at hfl HF ⊢
      generalize hm : (rdL xs k).length = m at hfl HF hx
      go_wp2_with fail
      go_roundw
      case rel => exact ⟨k + 1, by omega, by go_num, by rw [HF.out]; exact ⟨by simp, trivial⟩⟩
      case measure => simp [intOf]; omega
    · obtain rfl : k = xs.length := by omega
      rw [List.take_length]
      generalize hG : flen xs = n at hn
      go_wp2_with fail
      refine (grow_any n _ hn).mono ?_
      rintro e w1 ⟨v, rfl, hro, hb⟩
      have HO := Lib.hid hro
      have HB := Lib.hid hb
      clear hro hb
      go_wp2_with fail
      go_loopw [6, 8, 27] (fun v6 _ i wx => ∃ k : Nat, k ≤ xs.length ∧ i = .int .i64 k ∧ Kd.R (Kd.int .u8) 5 wx w.heap.size (fun _ => True) v6 (xs.take k).flatten ∧ Below w.heap.size w wx) (fun _ _ i _ => xs.length - (intOf i).toNat)
      case atStart => exact ⟨0, Nat.zero_le _, rfl, HO.out, HB.out⟩
      case round =>
        clear HO HB
        obtain ⟨k, hk, rfl, hro, hb⟩ := hrel
        obtain ⟨Ao, co, rfl⟩ := Kd.R_slice hro
        have HO := Lib.hid hro
        have HB := Lib.hid hb
        clear hro hb
        by_cases hlt : k < xs.length
        · obtain ⟨ad, A0, c0, rfl, hx, hxr⟩ := at_L (Kd.C_below HR.out HB.out) (k : Int) (by omega) (by omega)
          have HX := Lib.hid hxr
          clear hxr
          simp only [Int.toNat_natCast] at hx
          have HF := Lib.hid (flat_take xs k hlt)
          have hfl := flen_le xs (k + 1)
          rw [flen_take xs k hlt, hG] at hfl
          unfold flen at hfl
          generalize hq : rdL xs k = q at HF HX hx hfl
          generalize hp : (xs.take k).flatten = p at HO HF hfl ⊢
          have HL : Hid ((p.length + q.length) * 1 ≤ 140737488355328) := Lib.hid (by omega)
          go_wp2_with (at_builtin; refine Kd.R_append_rows (Kd.int .u8) (w0 := w) w.heap.size rfl (.tmp 31) (.tmp 32) 22 5 (.int .u8 0) 1 rfl Try.underlying22 infob rfl (by decide) (by omega) _ p q _ _ _ (fun _ => True) (fun _ => False) rfl rfl HO.out HX.out (fun _ _ h => h) (fun _ h => h.elim) (fun _ _ => trivial) HB.out HB.out.size HL.out ?_; intro v1 w1 ho hb hg hat)
          go_roundw
          case rel => exact ⟨k + 1, by omega, by go_num, by rw [HF.out]; exact ho, hb⟩
          case measure => simp [intOf]; omega
        · obtain rfl : k = xs.length := by omega
          rw [List.take_length] at HO ⊢
          go_wp2_with fail
          go_ret
          exact ⟨_, rfl, HO.out, HB.out⟩
end Go.Proofs.Ytafkabkoglbndaa
