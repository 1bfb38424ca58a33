/- The law's head. -/
import Derived.Test.YtacpeilgjaodbaaD7
import Derived.Lib.SlBytesConst
namespace Go.Proofs.Ytacpeilgjaodbaa
open Go.RowKit Go.Proofs.YtacpeilgjaodbaaW.PrintWords Go.Proofs.YtacpeilgjaodbaaW.PrintLast Go.Proofs.YtacpeilgjaodbaaW.PrintMore
set_option linter.unusedVariables false
set_option linter.unusedSimpArgs false
theorem CutAt.below {w w' : World} {B g r : Nat} {o : Option (Int × Int)} {p : Option Addr} (h : CutAt w B g r o p) (hb : Below w.heap.size w w') : CutAt w' B g r o p := by
  cases o with
  | none => exact h
  | some x =>
    obtain ⟨a, b⟩ := x
    obtain ⟨q, h1, h2, h3, h4, h5, h6⟩ := h
    exact ⟨q, h1, h2, h3, h4, blk_below h5 hb, h6⟩
theorem IsDisk.below {w w' : World} {B g r : Nat} {D : Dk} (h : IsDisk w B g r D) (hb : Below w.heap.size w w') : IsDisk w' B g r D := by
  obtain ⟨p, h1, h2⟩ := h.blk
  exact ⟨⟨p, blk_below h1 hb, h2.below hb⟩, blk_below h.row hb, h.len, h.byt, h.ne, h.bg, h.br, h.big⟩
theorem below_more {B : Nat} {w w1 w2 : World} (h : Below B w w1) (hB : B ≤ w1.heap.size) (k : Below w1.heap.size w1 w2) : Below B w w2 := below_then h hB k
def D1 : Dk := (writeOf (new 2) 0 [97, 98, 99]).2
theorem e1 : writeOf (new 2) 0 [97, 98, 99] = (0, D1) := Prod.ext (by decide +kernel) rfl
def D2 : Dk := cut D1 0 2
def D3 : Dk := (writeOf D2 0 [120, 121, 122]).2
theorem e3 : writeOf D2 0 [120, 121, 122] = (101, D3) := Prod.ext (by decide +kernel) rfl
theorem r3 : readOf D3 0 = ([], 101) := by decide +kernel
theorem d3 : D3.down = true := by decide +kernel
def D4 : Dk := boot D3
def L4 : List Int := sect D4 0
theorem r4 : readOf D4 0 = (L4, 0) := by decide +kernel
theorem l4 : L4.length = 64 := by decide +kernel
theorem s4 : L4.take 4 = [120, 121, 99, 0] := by decide +kernel
theorem r42 : readOf D4 2 = ([], 1) := by decide +kernel
theorem n4 : D4.n = 2 := by decide +kernel
theorem w4' : D4.wrote = 1 := by decide +kernel
theorem e4 : writeOf D4 0 (List.replicate 65 0) = (1, D4) := Prod.ext (by decide +kernel) rfl
theorem abc_bytes : Bytes [97, 98, 99] ∧ Bytes [120, 121, 122] ∧ Bytes (List.replicate 65 0) := by
  refine ⟨?_, ?_, fun x hx => by have := (List.mem_replicate.1 hx).2; omega⟩ <;> (intro x hx; simp at hx; omega)
theorem row_Cf {w : World} {fr : Nat × Nat} {r : Nat} {t : TypeId} {xs : List Int} (hg : w.heap[r]? = some (.cells (xs.map (Value.int .u8)).toArray t fr)) (off n : Nat) (h : off + n ≤ xs.length) (hm : n ≤ 1000000) :
    Kd.C (Kd.int .u8) w (some ⟨r, off, none⟩) ((xs.drop off).take n).length ((xs.drop off).take n) := by
  have hl : ((xs.drop off).take n).length = n := by rw [List.length_take, List.length_drop]; omega
  refine ⟨rfl, by omega, fun _ => ⟨_, rfl, fun j p hp => ⟨[.int .u8 p], rfl, rfl, fun i u hu => ?_⟩⟩⟩
  obtain rfl : i = 0 := by
    have := (List.getElem?_eq_some_iff.1 hu).1; simp at this; exact this
  obtain rfl : _ = u := by simpa using hu
  have hsz : j * (Kd.int .u8).sz + 0 = j := Nat.mul_one j
  have hj : j < n := by have := (List.getElem?_eq_some_iff.1 hp).1; omega
  rw [hsz, add_at, cell_of_row w r _ _ t fr hg, List.getElem?_toArray, List.getElem?_map]
  rw [List.getElem?_take, if_pos hj, List.getElem?_drop] at hp
  rw [hp]; rfl
/-- A write of three bytes just made. -/
theorem write_lit (B g r : Nat) (D D' : Dk) (x y z e0 : Int) (hb : Bytes [x, y, z]) (he : writeOf D 0 [x, y, z] = (e0, D')) (w : World) (h : IsDisk w B g r D) :
    Calls Try.prog 18 #[.pointer (some ⟨g, 0, none⟩), .int .i64 0, .slice (some ⟨w.heap.size, 0, none⟩) 3 3] (w.alloc (.cells #[.int .u8 x, .int .u8 y, .int .u8 z] 5 (3, 4))) fun e w' => e = .returned (.int .i64 e0) ∧ IsDisk w' B g r D' ∧ Below B w w' := by
  have hbl := below_alloc (Below.refl w.heap.size w) (.cells #[.int .u8 x, .int .u8 y, .int .u8 z] 5 (3, 4))
  have hrow : (w.alloc (.cells #[.int .u8 x, .int .u8 y, .int .u8 z] 5 (3, 4))).heap[w.heap.size]? = some (.cells (([x, y, z] : List Int).map (Value.int .u8)).toArray 5 (3, 4)) := blk_new w _
  refine (write_any B g r D 0 (some ⟨w.heap.size, 0, none⟩) 3 [x, y, z] _ (h.below hbl) hb (row_Cf hrow 0 3 (by simp) (by omega)) (e0, D') he).mono ?_
  rintro e w' ⟨h1, h2, h3, -⟩
  exact ⟨h1, h2, (below_then (Below.refl B w) h.lt hbl).trans h3⟩
theorem str_of {w w' : World} {A : Option Addr} {c : Nat} {l : List Int} (h : Kd.C (Kd.int .u8) w A l.length l) (hb : Below w.heap.size w w') : (convert 29 9 (.slice A l.length c)).run Try.prog w' = .ok (.string (strOfNums l)) w' :=
  Kd.C_string (P := Try.prog) Try.underlying29 Try.underlying5 Try.underlying9 (Kd.C_below h hb)
theorem make65 (W : World) : (Instr.makeSlice 29 (.int .i64 65) (.int .i64 65)).run Try.prog W = .ok (.slice (some ⟨W.heap.size, 0, none⟩) 65 65) (W.alloc (.cells ((List.replicate 65 (0 : Int)).map (Value.int .u8)).toArray 5)) := by
  obtain ⟨i0, hi, hzz⟩ := Option.map_eq_some_iff.1 infob
  simp only [Prod.mk.injEq] at hzz
  obtain ⟨hz0, hz1, hz2⟩ := hzz
  have hr := run_make (P := Try.prog) W 29 5 i0 _ Try.underlying29 hi hz0 .i64 .i64 65 65 (by decide) (by decide) (by rw [hz2]; decide) (by decide)
  rw [hr, hz1]
  show Result.ok _ (W.alloc (.cells (madeCells #[Value.int .u8 0] 65) 5)) = _
  rw [show madeCells #[Value.int .u8 0] 65 = ((List.replicate 65 (0 : Int)).map (Value.int .u8)).toArray from by kernel_rfl]
  rfl
theorem write65 (B g r : Nat) (w : World) (h : IsDisk w B g r D4) :
    Calls Try.prog 18 #[.pointer (some ⟨g, 0, none⟩), .int .i64 0, .slice (some ⟨w.heap.size, 0, none⟩) 65 65] (w.alloc (.cells ((List.replicate 65 (0 : Int)).map (Value.int .u8)).toArray 5)) fun e w' => e = .returned (.int .i64 1) ∧ Below B w w' := by
  have hbl := below_alloc (Below.refl w.heap.size w) (.cells ((List.replicate 65 (0 : Int)).map (Value.int .u8)).toArray 5)
  have hrow := blk_new w (.cells ((List.replicate 65 (0 : Int)).map (Value.int .u8)).toArray 5)
  have hC := row_C hrow 0 65 (by rw [List.length_replicate]; omega) (by omega)
  have he : (List.drop 0 (List.replicate 65 (0 : Int))).take 65 = List.replicate 65 0 := by decide
  rw [he] at hC
  have hw := write_any B g r D4 0 (some ⟨w.heap.size, 0, none⟩) 65 (List.replicate 65 0) _ (h.below hbl) abc_bytes.2.2 hC (1, D4) e4
  rw [List.length_replicate] at hw
  refine hw.mono ?_
  rintro e w' ⟨h1, h2, h3, -⟩
  exact ⟨h1, (below_then (Below.refl B w) h.lt hbl).trans h3⟩
set_option maxRecDepth 100000 in
set_option maxHeartbeats 4000000 in
theorem head_any (w : World) : Calls Try.prog 8 #[] w fun e w' => e = .returned (.bool true) ∧ Below w.heap.size w w' := by
  have hcs : ∀ (w : World) (C : Array Value) (n c : Nat), (convert 29 29 (.slice (some ⟨w.heap.size, 0, none⟩) n c)).run Try.prog (w.alloc (.cells C 5)) = .ok (.slice (some ⟨w.heap.size, 0, none⟩) n c) (w.alloc (.cells C 5 (C.size, C.size + 1))) := fun w C n c => Lib.run_convert_bytes_const (P := Try.prog) w 29 5 C n c Try.underlying29 Try.underlying5
  go_enter Try.func8, Try.ntmps8
  go_wp2_with fail
  refine (new_any 2 w).mono ?_
  rintro e w1 ⟨g, r, rfl, hd, hb⟩
  have HD1 := Lib.hid hd
  have HB1 := Lib.hid hb
  clear hd hb
  go_wp2_with fail
  refine (write_lit w.heap.size g r (new 2) D1 97 98 99 0 abc_bytes.1 e1 w1 HD1.out).mono ?_
  rintro e w2 ⟨rfl, hd, hb⟩
  have HD2 := Lib.hid hd
  have HB2 := Lib.hid (HB1.out.trans hb)
  clear hd hb HD1 HB1
  go_wp2_with fail
  refine (cut_any w.heap.size g r D1 0 2 w2 HD2.out (by decide)).mono ?_
  rintro e w3 ⟨⟨v3, rfl⟩, hd, hb, -⟩
  have HD3 := Lib.hid (show IsDisk w3 w.heap.size g r D2 from hd)
  have HB3 := Lib.hid (HB2.out.trans hb)
  clear hd hb HD2 HB2
  go_wp2_with fail
  refine (write_lit w.heap.size g r D2 D3 120 121 122 101 abc_bytes.2.1 e3 w3 HD3.out).mono ?_
  rintro e w4 ⟨rfl, hd, hb⟩
  have HD4 := Lib.hid hd
  have HB4 := Lib.hid (HB3.out.trans hb)
  clear hd hb HD3 HB3
  go_wp2_with fail
  refine (read_any w.heap.size g r D3 0 w4 HD4.out _ r3).mono ?_
  rintro e w5 ⟨A5, d5, rfl, hd5, hc5, hb⟩
  have HD5 := Lib.hid (HD4.out.below hb)
  have HB5 := Lib.hid (below_then HB4.out HB4.out.size hb)
  clear hb hc5 HD4 HB4
  go_wp2_with fail
  refine (down_any w.heap.size g r D3 w5 HD5.out).mono ?_
  rintro e w6 ⟨rfl, rfl⟩
  rw [d3]
  go_wp2_with fail
  refine (boot_any w.heap.size g r D3 w5 HD5.out).mono ?_
  rintro e w6 ⟨⟨v6, rfl⟩, hd, hb, -⟩
  have HD6 := Lib.hid (show IsDisk w6 w.heap.size g r D4 from hd)
  have HB6 := Lib.hid (HB5.out.trans hb)
  clear hd hb HD5 HB5
  go_wp2_with fail
  refine (read_any w.heap.size g r D4 0 w6 HD6.out _ r4).mono ?_
  rintro e w7 ⟨A7, d7, rfl, hd7, hc7, hb⟩
  have HD7 := Lib.hid (HD6.out.below hb)
  have HB7 := Lib.hid (below_then HB6.out HB6.out.size hb)
  have HC7 := Lib.hid hc7
  clear hb hc7 HD6 HB6
  go_wp2_with fail
  refine (read_any w.heap.size g r D4 2 w7 HD7.out _ r42).mono ?_
  rintro e w8 ⟨A8, d8, rfl, hd8, hc8, hb⟩
  have HD8 := Lib.hid (HD7.out.below hb)
  have HB8 := Lib.hid (below_then HB7.out HB7.out.size hb)
  have HC8 := Lib.hid (Kd.C_below HC7.out hb)
  clear hb hc8 HD7 HB7 HC7
  have hl4 : L4.length = 64 := l4
  have hl4i : ((L4.length : Int) == 64) = true := by rw [hl4]; rfl
  have h4d : 4 ≤ d7 := by have : L4.length ≤ d7 := hd7; omega
  have hct := Kd.C_take HC8.out (m := 4) (by rw [hl4]; decide)
  rw [s4] at hct
  have hstr : (convert 29 9 (.slice A7 4 d7)).run Try.prog w8 = .ok (.string ⟨#[120, 121, 99, 0]⟩) w8 := (str_of hct (Below.refl _ _)).trans (by rw [show strOfNums [120, 121, 99, 0] = ⟨#[120, 121, 99, 0]⟩ from by decide +kernel])
  have hmk : ∀ W : World, (Instr.makeSlice 29 (.int .i64 65) (.int .i64 65)).run Try.prog W = .ok (.slice (some ⟨W.heap.size, 0, none⟩) 65 65) (W.alloc (.cells ((List.replicate 65 (0 : Int)).map (Value.int .u8)).toArray 5)) := make65
  clear hct hl4 HC8
  go_wp2_with fail
  refine (many_any w.heap.size g r D4 w8 HD8.out).mono ?_
  rintro e w9 ⟨rfl, rfl⟩
  rw [n4]
  go_wp2_with fail
  refine (writes_any w.heap.size g r D4 w8 HD8.out).mono ?_
  rintro e w9 ⟨rfl, rfl⟩
  rw [w4']
  clear hstr
  go_wp2_with fail
  refine (write65 w.heap.size g r w8 HD8.out).mono ?_
  rintro e w9 ⟨rfl, hb⟩
  have HB9 := Lib.hid (HB8.out.trans hb)
  clear hb
  go_wp2_with fail
  go_ret
  exact ⟨rfl, HB9.out⟩
end Go.Proofs.Ytacpeilgjaodbaa
