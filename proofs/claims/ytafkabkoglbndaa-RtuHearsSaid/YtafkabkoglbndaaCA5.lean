/- crc.Open; the live question. -/
import Derived.Test.YtafkabkoglbndaaCA4
import Derived.Lib.SlBytesConst
namespace Go.Proofs.Ytafkabkoglbndaa
open Go.RowKit Go.Proofs.YtafkabkoglbndaaW.PrintWords Go.Proofs.YtafkabkoglbndaaW.PrintLast
set_option maxRecDepth 100000 in
set_option maxHeartbeats 2000000 in
theorem open_any (A : Option Addr) (c : Nat) (l : List Int) (w : World) (hn : l.length ≤ 1000000) (hb : ∀ x ∈ l, 0 ≤ x ∧ x ≤ 255) (hr : Kd.C (Kd.int .u8) w A l.length l) (hc : l.length ≤ c) :
    Calls Try.prog 24 #[.slice A l.length c] w fun e w' => ∃ v, e = .returned (.tuple #[v, .bool (decide (2 ≤ l.length ∧ sum l = 0))]) ∧ Kd.R (Kd.int .u8) 5 w' w.heap.size (fun _ => True) v (if 2 ≤ l.length ∧ sum l = 0 then l.take (l.length - 2) else []) ∧ Below w.heap.size w w' := by
  have HR := Lib.hid hr
  have HBY := Lib.hid hb
  clear hr hb
  by_cases h2 : 2 ≤ l.length
  · generalize hsd : sum l = s
    have HS := Lib.hid hsd
    have hs : s < 65536 := by rw [← hsd]; exact sumN_lt _ _ (by omega) HBY.out
    clear hsd
    by_cases h0 : s = 0
    · subst h0
      rw [if_pos ⟨h2, rfl⟩, decide_eq_true ⟨h2, rfl⟩]
      have h2i : ¬ ((l.length : Int) < 2) := by omega
      have hw : wrap64 ((l.length : Int) - 2) = ((l.length - 2 : Nat) : Int) := by unfold wrap64; omega
      have htk : (l.take (l.length - 2)).length = l.length - 2 := by rw [List.length_take]; omega
      obtain ⟨i0, hi0, _, hsz, _⟩ := info_parts infob
      obtain ⟨hcut, hA, hC⟩ := print_take_of (P := Try.prog) (Value.int .u8) 0 22 5 .i64 Try.underlying22 hi0 hsz A c l ((l.length - 2 : Nat) : Int) (by omega) (by omega) hc
      have HT := Lib.hid (Kd.C_of_reads (h1 := fun _ => rfl) (hA _ (Kd.reads_of_C HR.out)))
      clear hA hC hi0 hsz
      simp only [Int.toNat_natCast] at HT hcut
      go_enter Try.func24, Try.ntmps24
      go_wp2_with fail
      refine (sum_any _ _ _ _ hn HBY.out HR.out).mono ?_
      rintro e w1 ⟨rfl, hb1⟩
      rw [HS.out]
      have HB := Lib.hid hb1
      have HT1 := Lib.hid (Kd.C_below HT.out hb1)
      clear hb1 HT
      go_wp2_with fail
      have h := clone_any A c (l.take (l.length - 2)) w1 (by omega) HT1.out
      rw [htk] at h
      refine h.mono ?_
      rintro e w2 ⟨v, rfl, ho, hb⟩
      have HO := Lib.hid (Kd.R_lower ho (base' := w.heap.size) HB.out.size)
      have HB2 := Lib.hid (below_step HB.out hb)
      clear ho hb
      go_wp2_with fail
      go_ret2
      exact ⟨_, rfl, HO.out, HB2.out⟩
    · rw [if_neg (fun h => h0 h.2), decide_eq_false (fun h => h0 h.2)]
      have h2i : ¬ ((l.length : Int) < 2) := by omega
      have h0i : ¬ ((s : Int) = 0) := by omega
      go_enter Try.func24, Try.ntmps24
      go_wp2_with fail
      refine (sum_any _ _ _ _ hn HBY.out HR.out).mono ?_
      rintro e w1 ⟨rfl, hb1⟩
      rw [HS.out]
      have HB := Lib.hid hb1
      clear hb1
      go_wp2_with fail
      go_ret2
      exact ⟨_, rfl, Kd.R_nil _ _ _ _ _, HB.out⟩
  · rw [if_neg (fun h => h2 h.1), decide_eq_false (fun h => h2 h.1)]
    have h2i : ((l.length : Int) < 2) := by omega
    go_enter Try.func24, Try.ntmps24
    go_wp2_with fail
    go_ret2
    exact ⟨_, rfl, Kd.R_nil _ _ _ _ _, Below.refl _ _⟩
theorem lit_Cf (w : World) (l : List Int) (hl : l.length ≤ maxLen) (cs : Array Value) (fr : Nat × Nat) (hcs : cs = bytesRow l) : Kd.C (Kd.int .u8) (w.alloc (.cells cs 5 fr)) (some ⟨w.heap.size, 0, none⟩) l.length l := by
  subst hcs
  refine ⟨rfl, by unfold maxLen at hl; omega, fun _ => ⟨_, rfl, fun j p hp => ⟨[.int .u8 p], rfl, rfl, fun i u hu => ?_⟩⟩⟩
  obtain rfl : i = 0 := by
    have := (List.getElem?_eq_some_iff.1 hu).1; simp at this; exact this
  obtain rfl : _ = u := by simpa using hu
  rw [add_plain]
  have hh : (w.alloc (.cells (bytesRow l) 5 fr)).heap[w.heap.size]? = some (.cells (bytesRow l) 5 fr) := by
    show (w.heap.push _)[w.heap.size]? = _
    simp
  simp only [World.cell?, hh]
  have hsz : j * (Kd.int .u8).sz + 0 = j := Nat.mul_one j
  rw [hsz]
  simp [bytesRow, hp]
end Go.Proofs.Ytafkabkoglbndaa
