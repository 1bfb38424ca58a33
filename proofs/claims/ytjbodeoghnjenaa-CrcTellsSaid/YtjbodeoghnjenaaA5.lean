/- crc.Open; the live question. -/
import Derived.Test.YtjbodeoghnjenaaA4
import Derived.Lib.SlBytesConst
namespace Go.Proofs.Ytjbodeoghnjenaa
open Go.RowKit Go.Proofs.YtjbodeoghnjenaaW.PrintWords Go.Proofs.YtjbodeoghnjenaaW.PrintLast
set_option maxRecDepth 100000 in
set_option maxHeartbeats 2000000 in
theorem open_any (A : Option Addr) (c : Nat) (l : List Int) (w : World) (hn : l.length ≤ 1000000) (hb : ∀ x ∈ l, 0 ≤ x ∧ x ≤ 255) (hr : Kd.C (Kd.int .u8) w A l.length l) (hc : l.length ≤ c) :
    Calls Try.prog 10 #[.slice A l.length c] w fun e w' => ∃ v, e = .returned (.tuple #[v, .bool (decide (2 ≤ l.length ∧ sum l = 0))]) ∧ Kd.R (Kd.int .u8) 5 w' w.heap.size (fun _ => True) v (if 2 ≤ l.length ∧ sum l = 0 then l.take (l.length - 2) else []) ∧ Below w.heap.size w w' := by
  have HR := Lib.hid hr
  have HBY := Lib.hid hb
  clear hr hb
  by_cases h2 : 2 ≤ l.length
  · generalize hsd : sum l = s
    have HS := Lib.hid hsd
    have hs : s < 65536 := by rw [← hsd]; exact sumN_lt _ _ (by omega) HBY.out
    clear hsd
    by_cases h0 : s = 0
    · subst h0
      rw [if_pos ⟨h2, rfl⟩, decide_eq_true ⟨h2, rfl⟩]
      have h2i : ¬ ((l.length : Int) < 2) := by omega
      have hw : wrap64 ((l.length : Int) - 2) = ((l.length - 2 : Nat) : Int) := by unfold wrap64; omega
      have htk : (l.take (l.length - 2)).length = l.length - 2 := by rw [List.length_take]; omega
      obtain ⟨i0, hi0, _, hsz, _⟩ := info_parts infob
      obtain ⟨hcut, hA, hC⟩ := print_take_of (P := Try.prog) (Value.int .u8) 0 22 5 .i64 Try.underlying22 hi0 hsz A c l ((l.length - 2 : Nat) : Int) (by omega) (by omega) hc
      have HT := Lib.hid (Kd.C_of_reads (h1 := fun _ => rfl) (hA _ (Kd.reads_of_C HR.out)))
      clear hA hC hi0 hsz
      simp only [Int.toNat_natCast] at HT hcut
      go_enter Try.func10, Try.ntmps10
      go_wp2_with fail
      refine (sum_any _ _ _ _ hn HBY.out HR.out).mono ?_
      rintro e w1 ⟨rfl, hb1⟩
      rw [HS.out]
      have HB := Lib.hid hb1
      have HT1 := Lib.hid (Kd.C_below HT.out hb1)
      clear hb1 HT
      go_wp2_with fail
      have h := clone_any A c (l.take (l.length - 2)) w1 (by omega) HT1.out
      rw [htk] at h
      refine h.mono ?_
      rintro e w2 ⟨v, rfl, ho, hb⟩
      have HO := Lib.hid (Kd.R_lower ho (base' := w.heap.size) HB.out.size)
      have HB2 := Lib.hid (below_step HB.out hb)
      clear ho hb
      go_wp2_with fail
      go_ret2
      exact ⟨_, rfl, HO.out, HB2.out⟩
    · rw [if_neg (fun h => h0 h.2), decide_eq_false (fun h => h0 h.2)]
      have h2i : ¬ ((l.length : Int) < 2) := by omega
      have h0i : ¬ ((s : Int) = 0) := by omega
      go_enter Try.func10, Try.ntmps10
      go_wp2_with fail
      refine (sum_any _ _ _ _ hn HBY.out HR.out).mono ?_
      rintro e w1 ⟨rfl, hb1⟩
      rw [HS.out]
      have HB := Lib.hid hb1
      clear hb1
      go_wp2_with fail
      go_ret2
      exact ⟨_, rfl, Kd.R_nil _ _ _ _ _, HB.out⟩
  · rw [if_neg (fun h => h2 h.1), decide_eq_false (fun h => h2 h.1)]
    have h2i : ((l.length : Int) < 2) := by omega
    go_enter Try.func10, Try.ntmps10
    go_wp2_with fail
    go_ret2
    exact ⟨_, rfl, Kd.R_nil _ _ _ _ _, Below.refl _ _⟩
theorem lit_Cf (w : World) (l : List Int) (hl : l.length ≤ maxLen) (cs : Array Value) (fr : Nat × Nat) (hcs : cs = bytesRow l) : Kd.C (Kd.int .u8) (w.alloc (.cells cs 5 fr)) (some ⟨w.heap.size, 0, none⟩) l.length l := by
  subst hcs
  refine ⟨rfl, by unfold maxLen at hl; omega, fun _ => ⟨_, rfl, fun j p hp => ⟨[.int .u8 p], rfl, rfl, fun i u hu => ?_⟩⟩⟩
  obtain rfl : i = 0 := by
    have := (List.getElem?_eq_some_iff.1 hu).1; simp at this; exact this
  obtain rfl : _ = u := by simpa using hu
  rw [add_plain]
  have hh : (w.alloc (.cells (bytesRow l) 5 fr)).heap[w.heap.size]? = some (.cells (bytesRow l) 5 fr) := by
    show (w.heap.push _)[w.heap.size]? = _
    simp
  simp only [World.cell?, hh]
  have hsz : j * (Kd.int .u8).sz + 0 = j := Nat.mul_one j
  rw [hsz]
  simp [bytesRow, hp]
def digits : List Int := [49, 50, 51, 52, 53, 54, 55, 56, 57]
def sealed : List Int := [49, 50, 51, 52, 53, 54, 55, 56, 57, 55, 75]
theorem sum_digits : sum digits = 19255 := by decide +kernel
theorem sum_sealed : sum sealed = 0 := by decide +kernel
theorem string_digits : strOfNums digits = ⟨#[49, 50, 51, 52, 53, 54, 55, 56, 57]⟩ := by decide +kernel
theorem seal_digits (w : World) (fr : Nat × Nat) : Calls Try.prog 14 #[.slice (some ⟨w.heap.size, 0, none⟩) 9 9] (w.alloc (.cells #[.int .u8 49, .int .u8 50, .int .u8 51, .int .u8 52, .int .u8 53, .int .u8 54, .int .u8 55, .int .u8 56, .int .u8 57] 5 fr)) fun e w' => ∃ g c, e = .returned (.slice (some ⟨g, 0, none⟩) 11 c) ∧ 11 ≤ c ∧ Kd.C (Kd.int .u8) w' (some ⟨g, 0, none⟩) 11 sealed ∧ Below w.heap.size w w' := by
  have h1 := seal_any (some ⟨w.heap.size, 0, none⟩) 9 digits _ (by decide) (by decide) (lit_Cf w digits (by decide) #[.int .u8 49, .int .u8 50, .int .u8 51, .int .u8 52, .int .u8 53, .int .u8 54, .int .u8 55, .int .u8 56, .int .u8 57] fr rfl) (by decide)
  rw [sum_digits] at h1
  refine h1.mono ?_
  rintro e w1 ⟨v, rfl, ho, hb⟩
  have ho' : Kd.R (Kd.int .u8) 5 w1 _ (fun _ => True) v sealed := ho
  obtain ⟨_, ⟨_, h0⟩ | ⟨g, c, cur, rfl, _⟩⟩ := Kd.own_of_R ho'
  · exact absurd h0 (by decide)
  obtain ⟨_, hc, hr⟩ := Kd.R_reads' ho'
  exact ⟨g, c, rfl, hc, hr, below_step (below_alloc (Below.refl _ _) _) hb⟩
theorem sum_digits_calls (w : World) (fr : Nat × Nat) : Calls Try.prog 12 #[.slice (some ⟨w.heap.size, 0, none⟩) 9 9] (w.alloc (.cells #[.int .u8 49, .int .u8 50, .int .u8 51, .int .u8 52, .int .u8 53, .int .u8 54, .int .u8 55, .int .u8 56, .int .u8 57] 5 fr)) fun e w' => e = .returned (.int .u16 19255) ∧ Below w.heap.size w w' := by
  have h1 := sum_any (some ⟨w.heap.size, 0, none⟩) 9 digits _ (by decide) (by decide) (lit_Cf w digits (by decide) #[.int .u8 49, .int .u8 50, .int .u8 51, .int .u8 52, .int .u8 53, .int .u8 54, .int .u8 55, .int .u8 56, .int .u8 57] fr rfl)
  rw [sum_digits] at h1
  refine h1.mono ?_
  rintro e w1 ⟨rfl, hb⟩
  exact ⟨rfl, below_step (below_alloc (Below.refl _ _) _) hb⟩
theorem sum_none_calls (w : World) : Calls Try.prog 12 #[.slice none 0 0] w fun e w' => e = .returned (.int .u16 65535) ∧ Below w.heap.size w w' := sum_any none 0 [] w (by decide) (by decide) (Kd.C_nil _ _)
theorem open_sealed (A : Option Addr) (c : Nat) (w : World) (hc : 11 ≤ c) (hr : Kd.C (Kd.int .u8) w A 11 sealed) : Calls Try.prog 10 #[.slice A 11 c] w fun e w' => ∃ B d, e = .returned (.tuple #[.slice B 9 d, .bool true]) ∧ Kd.C (Kd.int .u8) w' B 9 digits ∧ Below w.heap.size w w' := by
  have h1 := open_any A c sealed w (by decide) (by decide) hr hc
  rw [sum_sealed] at h1
  refine h1.mono ?_
  rintro e w1 ⟨v, rfl, ho, hb⟩
  have ho' : Kd.R (Kd.int .u8) 5 w1 _ (fun _ => True) v digits := ho
  obtain ⟨B, d, rfl⟩ := Kd.R_slice ho'
  exact ⟨B, d, rfl, (Kd.R_reads' ho').2.2, hb⟩
theorem open_one (w : World) : Calls Try.prog 10 #[.slice (some ⟨w.heap.size, 0, none⟩) 1 1] (w.alloc (.cells #[.int .u8 1] 5)) fun e w' => ∃ B d, e = .returned (.tuple #[.slice B 0 d, .bool false]) ∧ Below w.heap.size w w' := by
  have h1 := open_any (some ⟨w.heap.size, 0, none⟩) 1 [1] _ (by decide) (by decide) (lit_Cf w [1] (by decide) #[.int .u8 1] (0, 0) rfl) (by decide)
  refine h1.mono ?_
  rintro e w1 ⟨v, rfl, ho, hb⟩
  have ho' : Kd.R (Kd.int .u8) 5 w1 _ (fun _ => True) v [] := ho
  obtain ⟨B, d, rfl⟩ := Kd.R_slice ho'
  exact ⟨B, d, rfl, below_step (below_alloc (Below.refl _ _) _) hb⟩
set_option maxRecDepth 100000 in
set_option maxHeartbeats 2000000 in
theorem head_any (w : World) : Calls Try.prog 9 #[] w fun e w' => e = .returned (.bool true) ∧ Below w.heap.size w w' := by
  have kc := fun (w : World) (C : Array Value) (n c : Nat) => Lib.run_convert_bytes_const (P := Try.prog) w 22 5 C n c Try.underlying22 Try.underlying5
  go_enter Try.func9, Try.ntmps9
  go_wp2_with fail
  refine (seal_digits w _).mono ?_
  rintro e w1 ⟨g, c, rfl, hc, hr, hb⟩
  have HR := Lib.hid hr
  have HB := Lib.hid hb
  clear hr hb
  go_wp2_with fail
  refine (open_sealed _ c w1 hc HR.out).mono ?_
  rintro e w2 ⟨B, d, rfl, hx, hb⟩
  have HR2 := Lib.hid (Kd.C_below HR.out hb)
  have HX := Lib.hid hx
  have HB2 := Lib.hid (below_step HB.out hb)
  clear hb hx HR HB
  go_wp2_with fail
  refine (open_one w2).mono ?_
  rintro e w3 ⟨B', d', rfl, hb⟩
  have HR := Lib.hid (Kd.C_below HR2.out hb)
  have HX1 := Lib.hid (Kd.C_below HX.out hb)
  have HB := Lib.hid (below_step HB2.out hb)
  clear hb HX HR2 HB2
  go_wp2_with fail
  refine (sum_digits_calls w3 _).mono ?_
  rintro e w4 ⟨rfl, hb⟩
  have HR2 := Lib.hid (Kd.C_below HR.out hb)
  have HX := Lib.hid (Kd.C_below HX1.out hb)
  have HB2 := Lib.hid (below_step HB.out hb)
  clear hb HX1 HR HB
  go_wp2_with fail
  refine (sum_none_calls w4).mono ?_
  rintro e w5 ⟨rfl, hb⟩
  have hr := Kd.C_below HR2.out hb
  have HB := Lib.hid (below_step HB2.out hb)
  have hstr := Kd.C_string (P := Try.prog) (w := w5) (src := 22) (dst := 9) (e := 5) (c := d) Try.underlying22 Try.underlying5 Try.underlying9 (Kd.C_below HX.out hb)
  rw [string_digits] at hstr
  clear hb HX HR2 HB2
  obtain ⟨ad, e1, hx9⟩ := Kd.at_int hr 9 (by decide) (by decide)
  obtain ⟨ad', e2, hx10⟩ := Kd.at_int hr 10 (by decide) (by decide)
  cases e1
  cases e2
  have hx9' : w5.cell? ⟨g, 9, none⟩ = some (.int .u8 55) := hx9
  have hx10' : w5.cell? ⟨g, 10, none⟩ = some (.int .u8 75) := hx10
  clear hx9 hx10 hr
  go_wp2_with fail
  go_ret
  exact ⟨rfl, HB.out⟩
end Go.Proofs.Ytjbodeoghnjenaa
