/- crc.Seal. -/
import Derived.Test.YtafkabkoglbndaaCA3
namespace Go.Proofs.Ytafkabkoglbndaa
open Go.RowKit Go.Proofs.YtafkabkoglbndaaW.PrintWords Go.Proofs.YtafkabkoglbndaaW.PrintLast

def bytesRow (l : List Int) : Array Value := (l.map (Value.int .u8)).toArray
theorem lit_R (w : World) (l : List Int) (hl : l.length ≤ maxLen) (cs : Array Value) (hcs : cs = bytesRow l) : Kd.R (Kd.int .u8) 5 (w.alloc (.cells cs 5)) w.heap.size (fun _ => True) (.slice (some ⟨w.heap.size, 0, none⟩) l.length l.length) l := by
  subst hcs
  exact Kd.R_of_own ⟨by simp [encs], .inr ⟨_, _, _, rfl, Nat.le_refl _, blk_new _ _, Nat.le_refl _, hl, by simp [bytesRow], by simp [bytesRow, encs, List.take_of_length_le]⟩⟩ (fun _ _ => trivial)
theorem lit_C (w : World) (l : List Int) (hl : l.length ≤ maxLen) (cs : Array Value) (hcs : cs = bytesRow l) : Kd.C (Kd.int .u8) (w.alloc (.cells cs 5)) (some ⟨w.heap.size, 0, none⟩) l.length l := (Kd.R_reads' (lit_R w l hl cs hcs)).2.2
theorem pair_C (w : World) (A B : Option Addr) (c d : Nat) (l m : List Int) (hl : l.length ≤ c) (hm : m.length ≤ d) (hA : Kd.C (Kd.int .u8) w A l.length l) (hB : Kd.C (Kd.int .u8) w B m.length m) (t : TypeId) :
    Kd.C (Kd.slice 5 (Kd.int .u8)) (w.alloc (.cells #[.slice A l.length c, .slice B m.length d] t)) (some ⟨w.heap.size, 0, none⟩) 2 [l, m] := by
  refine ⟨rfl, by decide, fun _ => ⟨_, rfl, fun j p hp => ?_⟩⟩
  match j, hp with
  | 0, hp =>
    obtain rfl : l = p := by simpa using hp
    refine ⟨[.slice A l.length c], rfl, ⟨A, c, rfl, hl, Kd.C_alloc hA _⟩, fun i u hu => ?_⟩
    obtain rfl : i = 0 := by
      have := (List.getElem?_eq_some_iff.1 hu).1; simp at this; exact this
    obtain rfl : _ = u := by simpa using hu
    rw [add_plain, blk_cell (blk_new _ _)]; rfl
  | 1, hp =>
    obtain rfl : m = p := by simpa using hp
    refine ⟨[.slice B m.length d], rfl, ⟨B, d, rfl, hm, Kd.C_alloc hB _⟩, fun i u hu => ?_⟩
    obtain rfl : i = 0 := by
      have := (List.getElem?_eq_some_iff.1 hu).1; simp at this; exact this
    obtain rfl : _ = u := by simpa using hu
    rw [add_plain, blk_cell (blk_new _ _)]; rfl
  | j + 2, hp => simp at hp

theorem concat_two (A : Option Addr) (c : Nat) (l m : List Int) (w : World) (hn : l.length + m.length ≤ 2000000) (hr : Kd.C (Kd.slice 5 (Kd.int .u8)) w A 2 [l, m]) :
    Calls Try.prog 30 #[.slice A 2 c] w fun e w' => ∃ v, e = .returned v ∧ Kd.R (Kd.int .u8) 5 w' w.heap.size (fun _ => True) v (l ++ m) ∧ Below w.heap.size w w' := by
  have h := concat_any A c [l, m] w (by simpa [flen] using hn) (by simp) hr
  rw [show [l, m].flatten = l ++ m by simp] at h
  exact h
set_option maxRecDepth 100000 in
set_option maxHeartbeats 2000000 in
theorem seal_any (A : Option Addr) (c : Nat) (l : List Int) (w : World) (hn : l.length ≤ 1000000) (hb : ∀ x ∈ l, 0 ≤ x ∧ x ≤ 255) (hr : Kd.C (Kd.int .u8) w A l.length l) (hc : l.length ≤ c) :
    Calls Try.prog 25 #[.slice A l.length c] w fun e w' => ∃ v, e = .returned v ∧ Kd.R (Kd.int .u8) 5 w' w.heap.size (fun _ => True) v (l ++ [((sum l : Nat) : Int) % 256, ((sum l : Nat) : Int) / 256]) ∧ Below w.heap.size w w' := by
  have HR := Lib.hid hr
  have HBY := Lib.hid hb
  have hs : sum l < 65536 := sumN_lt _ _ (by omega) hb
  clear hr hb
  generalize hsd : sum l = s at hs ⊢
  have HS := Lib.hid hsd
  clear hsd
  go_enter Try.func25, Try.ntmps25
  go_wp2_with fail
  refine (sum_any _ _ _ _ hn HBY.out HR.out).mono ?_
  rintro e w1 ⟨rfl, hb1⟩
  have HB := Lib.hid hb1
  have HR1 := Lib.hid (Kd.C_below HR.out hb1)
  clear hb1
  clear HR HBY
  rw [HS.out]
  clear HS
  go_wp2_with fail
  have hp := pair_C (w1.alloc (.cells #[.int .u8 ((s : Int) % 256), .int .u8 ((s : Int) / 256)] 5)) A (some ⟨w1.heap.size, 0, none⟩) c 2 l [(s : Int) % 256, (s : Int) / 256] hc (by simp) (Kd.C_alloc HR1.out _) (lit_C w1 [(s : Int) % 256, (s : Int) / 256] (show 2 ≤ maxLen by decide) _ rfl) 22
  have hsz : (w1.alloc (.cells #[.int .u8 ((s : Int) % 256), .int .u8 ((s : Int) / 256)] 5)).heap.size = w1.heap.size + 1 := by simp
  rw [hsz] at hp
  refine (concat_two _ 2 l [(s : Int) % 256, (s : Int) / 256] _ (by simp; omega) hp).mono ?_
  rintro e w2 ⟨v, rfl, ho, hb⟩
  have HO := Lib.hid (Kd.R_lower ho (base' := w.heap.size) (by have := HB.out.size; simp; omega))
  have HB2 := Lib.hid (below_step (below_alloc (below_alloc HB.out _) _) hb)
  clear ho hb
  go_wp2_with fail
  go_ret
  exact ⟨_, rfl, HO.out, HB2.out⟩
end Go.Proofs.Ytafkabkoglbndaa
