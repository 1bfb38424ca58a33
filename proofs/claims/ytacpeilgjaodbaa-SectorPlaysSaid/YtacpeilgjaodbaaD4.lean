/- The disk's Read. -/
import Derived.Test.YtacpeilgjaodbaaD3
namespace Go.Proofs.Ytacpeilgjaodbaa
open Go.RowKit Go.Proofs.YtacpeilgjaodbaaW.PrintWords Go.Proofs.YtacpeilgjaodbaaW.PrintLast Go.Proofs.YtacpeilgjaodbaaW.PrintMore
set_option linter.unusedVariables false
set_option linter.unusedSimpArgs false
theorem add_at (b o k : Nat) : (⟨b, o, none⟩ : Addr).add k = ⟨b, o + k, none⟩ := by unfold Addr.add; split <;> simp_all
theorem row_C {w : World} {r : Nat} {t : TypeId} {xs : List Int} (hg : w.heap[r]? = some (.cells (xs.map (Value.int .u8)).toArray t (0, 0))) (off n : Nat) (h : off + n ≤ xs.length) (hm : n ≤ 1000000) :
    Kd.C (Kd.int .u8) w (some ⟨r, off, none⟩) ((xs.drop off).take n).length ((xs.drop off).take n) := by
  have hl : ((xs.drop off).take n).length = n := by rw [List.length_take, List.length_drop]; omega
  refine ⟨rfl, by omega, fun _ => ⟨_, rfl, fun j p hp => ⟨[.int .u8 p], rfl, rfl, fun i u hu => ?_⟩⟩⟩
  obtain rfl : i = 0 := by
    have := (List.getElem?_eq_some_iff.1 hu).1; simp at this; exact this
  obtain rfl : _ = u := by simpa using hu
  have hsz : j * (Kd.int .u8).sz + 0 = j := Nat.mul_one j
  have hj : j < n := by have := (List.getElem?_eq_some_iff.1 hp).1; omega
  rw [hsz, add_at, blk_cell hg, List.getElem?_toArray, List.getElem?_map]
  rw [List.getElem?_take, if_pos hj, List.getElem?_drop] at hp
  rw [hp]; rfl
theorem sliceAt_all {P : Program} (t elem : TypeId) (n : Nat) (ht : P.underlying t = some (.array n elem)) (hs : (P.info? elem).map (·.size) = some 1) (a : Addr) (w : World) :
    (Instr.sliceAt t (.pointer (some a)) none none none).run P w = .ok (.slice (some a) n n) w := by
  have ha : a.add 0 = a := by unfold Addr.add; simp
  cases hq : P.info? elem with
  | none => simp [hq] at hs
  | some i =>
    have hi : i.size = 1 := by simpa [hq] using hs
    simp [Instr.sliceAt, run_underlying ht, Instr.sliceBounds, sizeOf, typeInfo, hq, hi, Instr.sureAddr, ha]
def sect (D : Dk) (i : Nat) : List Int := (D.rows.drop (i * 64)).take 64
theorem sect_len {w : World} {B g r : Nat} {D : Dk} (h : IsDisk w B g r D) {i : Nat} (hi : i < D.n) : (sect D i).length = 64 := by
  unfold sect; rw [List.length_take, List.length_drop, h.len]; omega
def readOf (D : Dk) (i : Int) : List Int × Int := if D.down then ([], 101) else if i < 0 then ([], 1) else if (D.n : Int) ≤ i then ([], 1) else (sect D i.toNat, 0)
def ReadPost (w : World) (x : List Int × Int) (e : Ending) (w' : World) : Prop := ∃ A d, e = .returned (.tuple #[.slice A x.1.length d, .int .i64 x.2]) ∧ x.1.length ≤ d ∧ Kd.C (Kd.int .u8) w' A x.1.length x.1 ∧ Below w.heap.size w w'
set_option maxRecDepth 100000 in
set_option maxHeartbeats 1000000 in
theorem read_any (B g r : Nat) (D : Dk) (i : Int) (w : World) (h : IsDisk w B g r D) (x : List Int × Int) (hx : readOf D i = x) : Calls Try.prog 12 #[.pointer (some ⟨g, 0, none⟩), .int .i64 i] w (ReadPost w x) := by
  obtain ⟨p, hg, _⟩ := h.blk
  have hc0 : w.cell? ⟨g, 0, none⟩ = some (.slice (some ⟨r, 0, none⟩) D.n D.n) := (blk_cell hg 0).trans rfl
  have hc2 : w.cell? ⟨g, 2, none⟩ = some (.bool D.down) := (blk_cell hg 2).trans rfl
  unfold readOf at hx
  by_cases hd : D.down = true
  · rw [if_pos hd] at hx
    subst hx
    rw [hd] at hc2
    clear hg h hd
    go_enter Try.func12, Try.ntmps12
    go_wp2_with fail
    go_ret2
    exact ⟨none, 0, rfl, Nat.le_refl _, Kd.C_nil _ _, Below.refl _ _⟩
  rw [if_neg hd] at hx
  have hdf : D.down = false := by simpa using hd
  rw [hdf] at hc2
  by_cases h0 : i < 0
  · rw [if_pos h0] at hx
    subst hx
    clear hg h hd hdf
    go_enter Try.func12, Try.ntmps12
    go_wp2_with fail
    go_ret2
    exact ⟨none, 0, rfl, Nat.le_refl _, Kd.C_nil _ _, Below.refl _ _⟩
  rw [if_neg h0] at hx
  by_cases h1 : (D.n : Int) ≤ i
  · rw [if_pos h1] at hx
    subst hx
    clear hg h hd hdf
    go_enter Try.func12, Try.ntmps12
    go_wp2_with fail
    go_ret2
    exact ⟨none, 0, rfl, Nat.le_refl _, Kd.C_nil _ _, Below.refl _ _⟩
  rw [if_neg h1] at hx
  obtain ⟨j, rfl⟩ := Int.eq_ofNat_of_zero_le (show 0 ≤ i by omega)
  have hj : j < D.n := by omega
  have hcut := sliceAt_all (P := Try.prog) 52 5 64 Try.underlying52 (by kernel_rfl)
  have hC := row_C h.row (j * 64) 64 (by rw [h.len]; omega) (by omega)
  have hl := sect_len h hj
  have hcl := clone_any (some ⟨r, j * 64, none⟩) 64 (sect D j) w (by omega) hC
  rw [hl] at hcl
  have HCL := Lib.hid hcl
  have HX := Lib.hid hx
  have HL := Lib.hid hl
  have hjn : (j : Int) < (D.n : Int) := by omega
  clear hg h hd hdf hC hl hcl h0 h1 hx
  go_enter Try.func12, Try.ntmps12
  go_wp2_with fail
  refine HCL.out.mono ?_
  rintro e w1 ⟨v, rfl, ho, hb⟩
  obtain ⟨A, d, rfl⟩ := Kd.R_slice ho
  obtain ⟨_, h2, h3⟩ := Kd.R_reads' ho
  have H2 := Lib.hid h2
  have H3 := Lib.hid h3
  have HB := Lib.hid hb
  clear ho h2 h3 hb
  go_wp2_with fail
  go_ret2
  rw [← HX.out]
  exact ⟨A, d, rfl, H2.out, H3.out, HB.out⟩
end Go.Proofs.Ytacpeilgjaodbaa
