/- The live question; the laws' ops. -/
import Derived.Test.YtinipcfnmngccaaC1
import Derived.Test.YtinipcfnmngccaaWWords
import Derived.Test.YtinipcfnmngccaaWLast
namespace Go.Proofs.Ytinipcfnmngccaa
open Go.Conc Go.RowKit Go.Proofs.YtinipcfnmngccaaW.PrintWords Go.Proofs.YtinipcfnmngccaaW.PrintLast
set_option linter.unusedVariables false
set_option linter.unusedSimpArgs false
theorem put_to {q b1 b2 n : Nat} {us os us' os' : List Int} {u r : Bool} {x : Int} {w : World} (h : IsQ 48 (Value.int .i64) w q b1 b2 n us os) (hp : qput n u x us os = (r, us', os')) :
    Calls Try.prog 15 #[.pointer (some ⟨q, 0, none⟩), .bool u, .int .i64 x] w fun e w' => e = .returned (.bool r) ∧ IsQ 48 (Value.int .i64) w' q b1 b2 n us' os' ∧ Only w w' b1 b2 := by
  have := put_int q b1 b2 n us os u x w h
  rw [hp] at this
  exact this
theorem take_to {q b1 b2 n : Nat} {us os us' os' : List Int} {r : Bool} {x : Int} {w : World} (h : IsQ 48 (Value.int .i64) w q b1 b2 n us os) (hp : qtake 0 us os = (x, r, us', os')) :
    Calls Try.prog 11 #[.pointer (some ⟨q, 0, none⟩)] w fun e w' => e = .returned (.tuple #[.int .i64 x, .bool r]) ∧ IsQ 48 (Value.int .i64) w' q b1 b2 n us' os' ∧ Only w w' b1 b2 := by
  have := take_int q b1 b2 n us os w h
  rw [hp] at this
  exact this
theorem putb_to {q b1 b2 n : Nat} {us os us' os' : List Bool} {u r : Bool} {x : Bool} {w : World} (h : IsQ 54 Value.bool w q b1 b2 n us os) (hp : qput n u x us os = (r, us', os')) :
    Calls Try.prog 20 #[.pointer (some ⟨q, 0, none⟩), .bool u, .bool x] w fun e w' => e = .returned (.bool r) ∧ IsQ 54 Value.bool w' q b1 b2 n us' os' ∧ Only w w' b1 b2 := by
  have := put_bool q b1 b2 n us os u x w h
  rw [hp] at this
  exact this
theorem takeb_to {q b1 b2 n : Nat} {us os us' os' : List Bool} {r : Bool} {x : Bool} {w : World} (h : IsQ 54 Value.bool w q b1 b2 n us os) (hp : qtake false us os = (x, r, us', os')) :
    Calls Try.prog 22 #[.pointer (some ⟨q, 0, none⟩)] w fun e w' => e = .returned (.tuple #[.bool x, .bool r]) ∧ IsQ 54 Value.bool w' q b1 b2 n us' os' ∧ Only w w' b1 b2 := by
  have := take_bool q b1 b2 n us os w h
  rw [hp] at this
  exact this
theorem IsQ.drewN {T : TypeId} {α : Type} {enc : α → Value} {w : World} {q b1 b2 n : Nat} {us os : List α} (h : IsQ T enc w q b1 b2 n us os) (d : Nat) : IsQ T enc (w.drewN d) q b1 b2 n us os := ⟨h.blk, h.c1, h.c2, h.ne⟩

/-! ### ops -/
structure S29 where
  f0 : Int
  f1 : Bool
  f2 : Int
def z29 : S29 := ⟨0, false, 0⟩
def k29 : Kd S29 := Kd.iso (Kd.pair (Kd.int .i64) (Kd.pair Kd.bool (Kd.int .i64))) (fun x : S29 => (x.f0, x.f1, x.f2))
theorem k29_open {w : World} {x : S29} {cs : List Value} (h : k29.K w x cs) : cs = [.int .i64 x.f0, .bool x.f1, .int .i64 x.f2] := by
  obtain ⟨_, _, rfl, rfl, ⟨_, _, rfl, rfl, rfl⟩⟩ := h
  rfl
def rd_T29 (xs : List S29) (i : Int) : S29 := xs.getD i.toNat z29
theorem at_T29 {w : World} {A : Option Addr} {n : Nat} {xs : List S29} (h : Kd.C k29 w A n xs) (i : Int) (h0 : 0 ≤ i) (h1 : i < n) : ∃ ad, A = some ad ∧ w.cell? (ad.add (i.toNat * 3)) = some (.int .i64 (rd_T29 xs i).f0) ∧ w.cell? ⟨(ad.add (i.toNat * 3)).block, (ad.add (i.toNat * 3)).off + 1, none⟩ = some (.bool (rd_T29 xs i).f1) ∧ w.cell? ⟨(ad.add (i.toNat * 3)).block, (ad.add (i.toNat * 3)).off + 2, none⟩ = some (.int .i64 (rd_T29 xs i).f2) := by
  obtain ⟨ad, c, e, _, hK, hc0⟩ := Kd.C_get h z29 i h0 h1
  have hc : ∀ j u, c[j]? = some u → w.cell? (ad.add (i.toNat * 3 + j)) = some u := hc0
  obtain rfl := k29_open hK
  exact ⟨ad, e, hc 0 _ rfl, by rw [← add_field _ _ 1 (by omega)]; exact hc 1 _ rfl, by rw [← add_field _ _ 2 (by omega)]; exact hc 2 _ rfl⟩
set_option maxRecDepth 100000 in
set_option maxHeartbeats 2000000 in
theorem head_any (w : World) : Calls Try.prog 8 #[] w fun e w' => e = .returned (.bool true) ∧ Below w.heap.size w w' := by
  go_enter Try.func8, Try.ntmps8
  go_wp2_with fail
  refine (new_int 2 w).mono ?_
  rintro e w1 ⟨q, b1, b2, rfl, hq, hb, hq0, hq1, hq2⟩
  have hn : room 2 = 2 := by decide
  rw [hn] at hq
  have HQ := Lib.hid hq
  have HB := Lib.hid hb
  clear hq hb hn
  go_wp2_with fail
  refine (put_to (u := false) (x := 1) (r := true) (us' := []) (os' := [1]) HQ.out rfl).mono ?_
  rintro e w2 ⟨rfl, hq, ho⟩
  have HQ2 := Lib.hid hq
  have HB2 := Lib.hid (HB.out.trans (ho.below hq1 hq2))
  clear hq ho HQ HB
  go_wp2_with fail
  refine (put_to (u := true) (x := 2) (r := true) (us' := [2]) (os' := [1]) HQ2.out rfl).mono ?_
  rintro e w3 ⟨rfl, hq, ho⟩
  have HQ := Lib.hid hq
  have HB := Lib.hid (HB2.out.trans (ho.below hq1 hq2))
  clear hq ho HQ2 HB2
  go_wp2_with fail
  refine (put_to (u := false) (x := 3) (r := true) (us' := [2]) (os' := [1, 3]) HQ.out rfl).mono ?_
  rintro e w4 ⟨rfl, hq, ho⟩
  have HQ2 := Lib.hid hq
  have HB2 := Lib.hid (HB.out.trans (ho.below hq1 hq2))
  clear hq ho HQ HB
  go_wp2_with fail
  refine (put_to (u := false) (x := 4) (r := false) (us' := [2]) (os' := [1, 3]) HQ2.out rfl).mono ?_
  rintro e w5 ⟨rfl, hq, ho⟩
  have HQ := Lib.hid hq
  have HB := Lib.hid (HB2.out.trans (ho.below hq1 hq2))
  clear hq ho HQ2 HB2
  go_wp2_with fail
  refine (many_int q b1 b2 2 [2] [1, 3] w5 HQ.out).mono ?_
  rintro e w6 ⟨rfl, d, rfl⟩
  have HQ2 := Lib.hid (HQ.out.drewN d)
  have HB2 := Lib.hid (below_drewN HB.out d)
  clear HQ HB
  go_wp2_with fail
  refine (take_to (r := true) (x := 2) (us' := []) (os' := [1, 3]) HQ2.out rfl).mono ?_
  rintro e w7 ⟨rfl, hq, ho⟩
  have HQ := Lib.hid hq
  have HB := Lib.hid (HB2.out.trans (ho.below hq1 hq2))
  clear hq ho HQ2 HB2
  go_wp2_with fail
  refine (take_to (r := true) (x := 1) (us' := []) (os' := [3]) HQ.out rfl).mono ?_
  rintro e w8 ⟨rfl, hq, ho⟩
  have HQ2 := Lib.hid hq
  have HB2 := Lib.hid (HB.out.trans (ho.below hq1 hq2))
  clear hq ho HQ HB
  go_wp2_with fail
  refine (drain_int q b1 b2 2 [] [3] w8 HQ2.out (by decide)).mono ?_
  rintro e w9 ⟨rfl, hq, ho⟩
  have HQ := Lib.hid hq
  have HB := Lib.hid (HB2.out.trans (ho.below hq1 hq2))
  clear hq ho HQ2 HB2
  go_wp2_with fail
  refine (take_to (r := false) (x := 0) (us' := []) (os' := []) HQ.out rfl).mono ?_
  rintro e w10 ⟨rfl, hq, ho⟩
  have HB2 := Lib.hid (HB.out.trans (ho.below hq1 hq2))
  clear hq ho HQ HB
  go_wp2_with fail
  go_ret
  exact ⟨rfl, HB2.out⟩
end Go.Proofs.Ytinipcfnmngccaa
