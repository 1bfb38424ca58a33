/- Put; the live question. -/
import Derived.Test.YtafkabkoglbndaaE1
namespace Go.Proofs.Ytafkabkoglbndaa
open Go.RowKit Go.Proofs.YtafkabkoglbndaaW.PrintWords Go.Proofs.YtafkabkoglbndaaW.PrintLast Go.Proofs.YtafkabkoglbndaaW.PrintMore
set_option linter.unusedVariables false
set_option linter.unusedSimpArgs false
def putOf (u : Int) (l : List Int) : List Int := if l.length = 0 then [] else if 253 < l.length then [] else sealOf (u :: l)
def RowPost (w : World) (p : List Int) (e : Ending) (w' : World) : Prop := ∃ B d, e = .returned (.slice B p.length d) ∧ p.length ≤ d ∧ Kd.C (Kd.int .u8) w' B p.length p ∧ Below w.heap.size w w'
theorem bytes_cons {u : Int} {l : List Int} (hu : 0 ≤ u ∧ u ≤ 255) (h : Bytes l) : Bytes (u :: l) := fun x hx => by
  rcases List.mem_cons.1 hx with rfl | hx
  · exact hu
  · exact h x hx
theorem put_f {u : Int} {l : List Int} (hu : 0 ≤ u ∧ u ≤ 255) (h : Bytes l) : QA.rtu_Put.f u l = some (putOf u l) := by
  unfold QA.rtu_Put.f putOf
  by_cases h1 : l.length = 0
  · rw [if_pos (by omega), if_pos h1]
  rw [if_neg (by omega), if_neg h1]
  by_cases h2 : 253 < l.length
  · rw [if_pos (by omega), if_pos h2]
  rw [if_neg (by omega), if_neg h2, Option.bind_some, if_pos (by simp; omega)]
  have e : QA.crc_Seal.f ([u] ++ l) = some (sealOf (u :: l)) := by
    unfold QA.crc_Seal.f
    rw [if_pos ⟨by simp; omega, bytes_all (bytes_cons hu h)⟩]; rfl
  rw [e, Option.bind_some]
theorem put_any (u : Int) (A : Option Addr) (c : Nat) (l : List Int) (w : World) (hu : 0 ≤ u ∧ u ≤ 255) (hb : Bytes l) (hr : Kd.C (Kd.int .u8) w A l.length l) (hc : l.length ≤ c) :
    Calls Try.prog 12 #[.int .u8 u, .slice A l.length c] w (RowPost w (putOf u l)) := by
  refine (QA.rtu_Put.calls u A c l (putOf u l) w hr hc (put_f hu hb)).mono ?_
  rintro e w' ⟨v, rfl, ho, hb⟩
  obtain ⟨B, d, rfl⟩ := Kd.R_slice ho
  obtain ⟨_, h2, h3⟩ := Kd.R_reads' ho
  exact ⟨B, d, rfl, h2, h3, hb⟩
theorem put_lit (w : World) (fr : Nat × Nat) : Calls Try.prog 12 #[.int .u8 1, .slice (some ⟨w.heap.size, 0, none⟩) 5 5] (w.alloc (.cells #[.int .u8 3, .int .u8 0, .int .u8 0, .int .u8 0, .int .u8 1] 5 fr)) fun e w' => ∃ g d, e = .returned (.slice (some ⟨g, 0, none⟩) 8 d) ∧ 8 ≤ d ∧ Kd.C (Kd.int .u8) w' (some ⟨g, 0, none⟩) 8 [1, 3, 0, 0, 0, 1, 132, 10] ∧ Below w.heap.size w w' := by
  have h1 := QA.rtu_Put.calls 1 (some ⟨w.heap.size, 0, none⟩) 5 [3, 0, 0, 0, 1] [1, 3, 0, 0, 0, 1, 132, 10] _ (lit_Cf w [3, 0, 0, 0, 1] (by decide) #[.int .u8 3, .int .u8 0, .int .u8 0, .int .u8 0, .int .u8 1] fr rfl) (by decide) (by decide +kernel)
  refine h1.mono ?_
  rintro e w1 ⟨v, rfl, ho, hb⟩
  have ho' : Kd.R (Kd.int .u8) 5 w1 _ (fun _ => True) v [1, 3, 0, 0, 0, 1, 132, 10] := ho
  obtain ⟨_, ⟨_, h0⟩ | ⟨g, c, cur, rfl, _⟩⟩ := Kd.own_of_R ho'
  · exact absurd h0 (by decide)
  obtain ⟨_, hc, hr⟩ := Kd.R_reads' ho'
  exact ⟨g, c, rfl, hc, hr, below_step (below_alloc (Below.refl _ _) _) hb⟩
theorem get_lit (L : List Int) (n : Nat) (cs : Array Value) (x : Int × List Int × Int) (hn : L.length = n) (hb : ∀ y ∈ L, 0 ≤ y ∧ y ≤ 255) (hm : L.length ≤ 1000) (hcs : cs = bytesRow L) (hx : getOf L = x) (w : World) (fr : Nat × Nat) :
    Calls Try.prog 10 #[.slice (some ⟨w.heap.size, 0, none⟩) n n] (w.alloc (.cells cs 5 fr)) (GetPost w x) := by
  subst hn
  have h1 := get_any (some ⟨w.heap.size, 0, none⟩) L.length L _ hb (lit_Cf w L (by unfold maxLen; omega) cs fr hcs) (Nat.le_refl _)
  rw [hx] at h1
  refine h1.mono ?_
  rintro e w1 ⟨B, d, rfl, hd, hr, hb⟩
  exact ⟨B, d, rfl, hd, hr, below_step (below_alloc (Below.refl _ _) _) hb⟩
theorem get2 (w : World) (fr : Nat × Nat) : Calls Try.prog 10 #[.slice (some ⟨w.heap.size, 0, none⟩) 3 3] (w.alloc (.cells #[.int .u8 1, .int .u8 2, .int .u8 3] 5 fr)) (GetPost w (0, [], 21)) :=
  get_lit [1, 2, 3] 3 _ _ rfl (by decide) (by decide) rfl (by decide +kernel) w fr
theorem get3 (w : World) (fr : Nat × Nat) : Calls Try.prog 10 #[.slice (some ⟨w.heap.size, 0, none⟩) 4 4] (w.alloc (.cells #[.int .u8 1, .int .u8 2, .int .u8 3, .int .u8 4] 5 fr)) (GetPost w (0, [], 23)) :=
  get_lit [1, 2, 3, 4] 4 _ _ rfl (by decide) (by decide) rfl (by decide +kernel) w fr
theorem b_one : Bytes [1, 3, 0, 0, 0, 1, 132, 10] := by
  have h : ∀ x ∈ ([1, 3, 0, 0, 0, 1, 132, 10] : List Int), 0 ≤ x ∧ x ≤ 255 := by decide
  exact h
theorem get1 : getOf [1, 3, 0, 0, 0, 1, 132, 10] = (1, [3, 0, 0, 0, 1], 0) := by decide +kernel
theorem sil1 : silOf ((hears zeros 0 [1, 3, 0, 0, 0, 1, 132, 10]).take (0 + takes 0 [1, 3, 0, 0, 0, 1, 132, 10])) = (1, [3, 0, 0, 0, 1], 0, true) := by decide +kernel
theorem many1 : 0 + takes 0 [1, 3, 0, 0, 0, 1, 132, 10] = 8 := by decide
theorem get_long (l : List Int) (h : 256 < l.length) : getOf l = (0, [], 22) := by unfold getOf; rw [if_pos h]
/-- A slice's bytes stand where another block alone has changed. -/
theorem C_kp {w w' : World} {g : Nat} {A : Option Addr} {l : List Int} {n : Nat} (h : Kd.C (Kd.int .u8) w A n l) (hk : Kp w w' g) (hA : ∀ ad, A = some ad → ad.block ≠ g) : Kd.C (Kd.int .u8) w' A n l := by
  refine ⟨h.1, h.2.1, fun hn => ?_⟩
  obtain ⟨ad, e, hr⟩ := h.2.2 hn
  refine ⟨ad, e, fun j p hp => ?_⟩
  obtain ⟨c, h1, h2, h3⟩ := hr j p hp
  refine ⟨c, h1, h2, fun i u hu => ?_⟩
  have h4 := h3 i u hu
  have hb := hA ad e
  have hlt := World.block_lt_of_cell? w _ h4
  have eb : (ad.add (j * (Kd.int .u8).sz + i)).block = ad.block := by unfold Addr.add; split <;> rfl
  rw [World.cell?_of_block (w := w) (hk.block _ hlt (by rw [eb]; exact hb))]
  exact h4
set_option maxRecDepth 100000 in
set_option maxHeartbeats 4000000 in
theorem head_any (w : World) : Calls Try.prog 9 #[] w fun e w' => e = .returned (.bool true) ∧ Below w.heap.size w w' := by
  go_enter Try.func9, Try.ntmps9
  go_wp2_with fail
  refine (put_lit w _).mono ?_
  rintro e w1 ⟨g, c, rfl, hc, hr, hb⟩
  have HR := Lib.hid hr
  have HB := Lib.hid hb
  clear hr hb
  go_wp2_with fail
  have h2 := get_any (some ⟨g, 0, none⟩) c [1, 3, 0, 0, 0, 1, 132, 10] w1 b_one HR.out hc
  rw [get1] at h2
  refine h2.mono ?_
  rintro e w2 ⟨B, d, rfl, hd, hx, hb⟩
  have HR2 := Lib.hid (Kd.C_below HR.out hb)
  have HX := Lib.hid hx
  have HB2 := Lib.hid (below_step HB.out hb)
  clear hb hx HR HB h2
  go_wp2_with fail
  refine (get2 w2 _).mono ?_
  rintro e w3 ⟨B2, d2, rfl, _, _, hb⟩
  have HR := Lib.hid (Kd.C_below HR2.out hb)
  have HX3 := Lib.hid (Kd.C_below HX.out hb)
  have HB := Lib.hid (below_step HB2.out hb)
  clear hb HR2 HX HB2
  go_wp2_with fail
  refine (get3 w3 _).mono ?_
  rintro e w4 ⟨B3, d3, rfl, _, _, hb⟩
  have HR2 := Lib.hid (Kd.C_below HR.out hb)
  have HX := Lib.hid (Kd.C_below HX3.out hb)
  have HB2 := Lib.hid (below_step HB.out hb)
  clear hb HR HX3 HB
  go_wp2_with ((with_reducible refine gate_dst (N := 45) rfl ?_); refine Kd.R_make (Kd.int .u8) _ 5 rfl (N := 45) rfl 22 _ _ rfl 257 rfl rfl Try.underlying22 (.int .u8 0) 1 infob rfl (by decide) (by omega) 0 (ok := fun _ => True) (okp := fun _ => True) rfl (fun _ hk => hk) trivial (by decide) (by decide) (Below.refl _ _) (Nat.le_refl _) ?_; intro v5 w5 ho5 hb5 hg5 hn5; obtain ⟨A5, c5, rfl⟩ := Kd.R_slice ho5; have HO5 := Lib.hid ho5; have HB5 := Lib.hid hb5; clear ho5 hb5 hg5 hn5)
  have h5 : Kd.R (Kd.int .u8) 5 w5 w4.heap.size (fun _ => True) (.slice A5 (List.replicate 257 (0 : Int)).length c5) (List.replicate 257 (0 : Int)) := HO5.out
  have h6 := get_any A5 c5 (List.replicate 257 0) w5 (fun x hx => by have := (List.mem_replicate.1 hx).2; omega) (Kd.R_reads' h5).2.2 (Kd.R_reads' h5).2.1
  rw [get_long _ (by rw [List.length_replicate]; omega)] at h6
  rw [List.length_replicate] at h6
  have H6 := Lib.hid h6
  clear h5 h6 HO5
  refine H6.out.mono ?_
  rintro e w6 ⟨B6, d6, rfl, _, _, hb⟩
  have HR6 := Lib.hid (Kd.C_below (Kd.C_below HR2.out HB5.out) hb)
  have HX6 := Lib.hid (Kd.C_below (Kd.C_below HX.out HB5.out) hb)
  have HB6 := Lib.hid (below_step (below_step HB2.out HB5.out) hb)
  clear hb HR2 HX HB2 HB5 H6
  go_wp2_with fail
  refine (new_any w6).mono ?_
  rintro e w7 ⟨y, rfl, hy, hear, hb⟩
  have HR7 := Lib.hid (Kd.C_below HR6.out hb)
  have HX7 := Lib.hid (Kd.C_below HX6.out hb)
  have HB7 := Lib.hid (below_step HB6.out hb)
  have HE7 := Lib.hid hear
  have hgy : g < y := by
    have h1 := Kd.at_int HR6.out 0 (by decide) (by decide)
    obtain ⟨ad, h2, h3⟩ := h1
    injection h2 with h2
    have := World.block_lt_of_cell? w6 _ h3
    rw [← h2] at this
    simp [Addr.add] at this
    omega
  have hwy : w.heap.size ≤ y := Nat.le_trans HB6.out.size hy
  have hBy : ∀ ad, B = some ad → ad.block < y := fun ad h => by
    obtain ⟨ad', h2, h3⟩ := Kd.at_int HX6.out 0 (by decide) (by decide)
    rw [h] at h2
    injection h2 with h2
    subst h2
    have := World.block_lt_of_cell? w6 _ h3
    have e : (ad.add (0 : Int).toNat) = ad := by unfold Addr.add; simp
    rw [e] at this
    omega
  clear hb hear HR6 HX6 HB6 hy
  go_wp2_with fail
  have h8 := hear_any y zeros 0 (some ⟨g, 0, none⟩) c [1, 3, 0, 0, 0, 1, 132, 10] w7 b_one HE7.out HR7.out
  refine h8.mono ?_
  rintro e w8 ⟨⟨v, rfl⟩, hear, hk⟩
  rw [many1] at hear
  have HE8 := Lib.hid hear
  have HR8 := Lib.hid (C_kp HR7.out hk (fun ad h => by injection h with h; rw [← h]; exact Nat.ne_of_lt hgy))
  have HX8 := Lib.hid (C_kp HX7.out hk (fun ad h => Nat.ne_of_lt (hBy ad h)))
  have HB8 := Lib.hid (HB7.out.trans (hk.below hwy HB7.out.size))
  clear h8 hear hk HE7 HR7 HX7 HB7
  go_wp2_with fail
  refine (many_any y _ 8 w8 HE8.out).mono ?_
  rintro e w8' ⟨rfl, rfl⟩
  go_wp2_with fail
  have h9 := silence_any y _ 8 w8 HE8.out
  have hs1 := sil1
  rw [many1] at hs1
  rw [hs1] at h9
  refine h9.mono ?_
  rintro e w9 ⟨B9, d9, rfl, _, _, hear, hk⟩
  have HE9 := Lib.hid hear
  have HR9 := Lib.hid (C_kp HR8.out hk (fun ad h => by injection h with h; rw [← h]; exact Nat.ne_of_lt hgy))
  have HX9 := Lib.hid (C_kp HX8.out hk (fun ad h => Nat.ne_of_lt (hBy ad h)))
  have HB9 := Lib.hid (HB8.out.trans (hk.below hwy HB8.out.size))
  clear h9 hear hk HE8 HR8 HX8 HB8 hs1
  go_wp2_with fail
  have h10 := silence_any y _ 0 w9 HE9.out
  rw [show silOf (List.take 0 (hears zeros 0 [1, 3, 0, 0, 0, 1, 132, 10])) = (0, [], 0, false) from by unfold silOf; rw [if_pos (by rw [List.take_zero])]] at h10
  refine h10.mono ?_
  rintro e w10 ⟨B10, d10, rfl, _, _, hear, hk⟩
  have hr := C_kp HR9.out hk (fun ad h => by injection h with h; rw [← h]; exact Nat.ne_of_lt hgy)
  have hx := C_kp HX9.out hk (fun ad h => Nat.ne_of_lt (hBy ad h))
  have HB10 := Lib.hid (HB9.out.trans (hk.below hwy HB9.out.size))
  obtain ⟨ad, e1, hx6⟩ := Kd.at_int hr 6 (by decide) (by decide)
  obtain ⟨ad', e2, hx7⟩ := Kd.at_int hr 7 (by decide) (by decide)
  obtain ⟨adB, e3, hx0⟩ := Kd.at_int hx 0 (by decide) (by decide)
  cases e1
  cases e2
  subst e3
  have hx6' : w10.cell? ⟨g, 6, none⟩ = some (.int .u8 132) := hx6
  have hx7' : w10.cell? ⟨g, 7, none⟩ = some (.int .u8 10) := hx7
  have hx0' : w10.cell? adB = some (.int .u8 3) := by
    have e : (adB.add (0 : Int).toNat) = adB := by unfold Addr.add; simp
    rw [e] at hx0
    exact hx0
  clear h10 hear hk HE9 HR9 HX9 HB9 hr hx hx6 hx7 hx0 hBy hgy hwy
  go_wp2_with fail
  go_ret
  exact ⟨rfl, HB10.out⟩
end Go.Proofs.Ytafkabkoglbndaa
