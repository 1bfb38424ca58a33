/- The sum of bytes. -/
import Derived.Test.YtafkabkoglbndaaCA1
import Derived.Test.YtafkabkoglbndaaWWords
import Derived.Test.YtafkabkoglbndaaWLast
import Derived.Test.YtafkabkoglbndaaWZeros
namespace Go.Proofs.Ytafkabkoglbndaa
open Go.RowKit Go.Proofs.YtafkabkoglbndaaW.PrintWords Go.Proofs.YtafkabkoglbndaaW.PrintLast

/-- What a byte makes of a sum. -/
def upd (s c : Nat) : Nat := (s / 256) ^^^ tab ((s % 256) ^^^ c)
def sumN (s : Nat) (l : List Int) : Nat := l.foldl (fun s c => upd s c.toNat) s
def sum (l : List Int) : Nat := sumN 65535 l
def isByte (x : Int) : Bool := decide (0 ≤ x ∧ x ≤ 255)
theorem tab_lt (i : Nat) (hi : i < 65536) : tab i < 65536 := fall_lt i 8 hi
theorem upd_lt (s c : Nat) (hs : s < 65536) (hc : c < 256) : upd s c < 65536 := by
  unfold upd
  have : (s % 256) ^^^ c < 2 ^ 8 := Nat.xor_lt_two_pow (by omega) (by omega)
  exact Nat.xor_lt_two_pow (n := 16) (by omega) (tab_lt _ (by omega))
theorem sumN_lt (l : List Int) : ∀ s, s < 65536 → (∀ x ∈ l, 0 ≤ x ∧ x ≤ 255) → sumN s l < 65536 := by
  induction l with
  | nil => intro s hs _; exact hs
  | cons x l ih =>
    intro s hs h
    have hx := h x (by simp)
    exact ih _ (upd_lt s x.toNat hs (by omega)) (fun y hy => h y (by simp [hy]))
theorem sum_take (l : List Int) (k : Nat) (hk : k < l.length) : sum (l.take (k + 1)) = upd (sum (l.take k)) (rd l k).toNat := by
  have e : rd l k = l[k] := by unfold rd; simp [List.getD_eq_getElem?_getD, List.getElem?_eq_getElem hk]
  rw [e]
  unfold sum sumN
  rw [List.take_succ_eq_append_getElem hk, List.foldl_append]; rfl

theorem upd16 (s c : Nat) (hs : s < 65536) (hc : c < 256) : Go.bits BinOp.xor IntKind.u16 ((s : Int) / 256) ((tab ((s % 256) ^^^ c) : Nat) : Int) = (upd s c : Nat) := by
  have hx : (s % 256) ^^^ c < 2 ^ 8 := Nat.xor_lt_two_pow (by omega) (by omega)
  have := u16_xor_nat (s / 256) (tab ((s % 256) ^^^ c)) (by omega) (tab_lt _ (by omega))
  rw [show ((s : Int) / 256) = ((s / 256 : Nat) : Int) by omega]
  exact this
set_option maxRecDepth 100000 in
set_option maxHeartbeats 1000000 in
theorem sum_any (A : Option Addr) (c : Nat) (l : List Int) (w : World) (hn : l.length ≤ 1000000) (hb : ∀ x ∈ l, 0 ≤ x ∧ x ≤ 255) (hr : Kd.C (Kd.int .u8) w A l.length l) :
    Calls Try.prog 28 #[.slice A l.length c] w fun e w' => e = .returned (.int .u16 (sum l : Nat)) ∧ Below w.heap.size w w' := by
  have HR := Lib.hid hr
  have HBY := Lib.hid hb
  clear hr hb
  have hz := (zero_of_info zero34).1
  go_enter Try.func28, Try.ntmps28
  go_wp2_with fail
  refine (table_any _).mono ?_
  rintro e w1 ⟨rfl, hb1⟩
  have Hb1 := Lib.hid hb1
  clear hb1
  have hs34 := (zero_of_info zero34).2
  have HS34 := Lib.hid hs34
  clear hs34
  have Hn : Hid (Blk (w1.alloc (.cells Z256 56)) w1.heap.size 56 Z256) := Blk.new _ _ _
  go_wp2_with (refine wpList_store_row rfl 56 (.tmp 3) (.tmp 7) rfl w1.heap.size (tabRow 256) rfl rfl 56 Z256 Hn.out (by rw [tabRow_size]; exact HS34.out) (by rw [Z256_size, tabRow_size]) (tabRow_one 256) ?_)
  have Hrow : Hid (Blk ((w1.alloc (.cells Z256 56)).setRow w1.heap.size (tabRow 256)) w1.heap.size 56 (tabRow 256)) := setRow_heap _ _ Z256 _ 56 (0, 0) Hn.out
  have Hb2 : Hid (Below w.heap.size w ((w1.alloc (.cells Z256 56)).setRow w1.heap.size (tabRow 256))) := below_setRow (Hb1.out.alloc Hb1.out.size _) Hb1.out.size _
  have hg := Hb1.out.size
  generalize (w1.alloc (.cells Z256 56)).setRow w1.heap.size (tabRow 256) = w2 at Hrow Hb2 ⊢
  clear Hn Hb1
  generalize w1.heap.size = g at Hrow hg ⊢
  clear hz
  go_loopw [4, 6, 10] (fun v4 _ i wr => ∃ k : Nat, k ≤ l.length ∧ i = .int .i64 k ∧ v4 = .int .u16 (sum (l.take k) : Nat) ∧ Blk wr g 56 (tabRow 256) ∧ Below w.heap.size w wr) (fun _ _ i _ => l.length - (intOf i).toNat)
  case atStart => exact ⟨0, Nat.zero_le _, rfl, rfl, Hrow.out, Hb2.out⟩
  case round =>
    obtain ⟨k, hk, rfl, rfl, hd, hb⟩ := hrel
    have Hd := Lib.hid hd
    have Hb := Lib.hid hb
    clear hd hb
    have hs : sum (l.take k) < 65536 := sumN_lt _ _ (by omega) (fun x hx => HBY.out x (List.mem_of_mem_take hx))
    by_cases hlt : k < l.length
    · obtain ⟨ad, rfl, hx⟩ := Kd.at_int HR.out (k : Int) (by omega) (by omega)
      replace hx := (Hb.out.cell (World.block_lt_of_cell? w _ hx)).trans hx
      simp only [Int.toNat_natCast] at hx
      have HT := Lib.hid (sum_take l k hlt)
      have hby := HBY.out (rd l k) (by unfold rd; rw [List.getD_eq_getElem?_getD, List.getElem?_eq_getElem (by simpa using hlt)]; exact List.getElem_mem _)
      obtain ⟨c0, hc0⟩ : ∃ c0 : Nat, rd l k = (c0 : Int) := ⟨(rd l k).toNat, by omega⟩
      rw [hc0] at hx hby HT
      clear hc0
      generalize hsg : sum (l.take k) = s at hs HT ⊢
      clear hsg
      have hc1 : c0 < 256 := by omega
      have hxor : Go.bits BinOp.xor IntKind.u8 ((s : Int) % 256) (c0 : Int) = (((s % 256) ^^^ c0 : Nat) : Int) := by
        have := u8_xor_nat (s % 256) c0 (by omega) hc1
        rw [show ((s : Int) % 256) = ((s % 256 : Nat) : Int) by omega]
        exact this
      have hlt8 : (s % 256) ^^^ c0 < 256 := Nat.xor_lt_two_pow (n := 8) (by omega) (by omega)
      have HU := Lib.hid (upd16 s c0 hs hc1)
      generalize hi : (s % 256) ^^^ c0 = i at hxor hlt8 HU
      have ct : wr.cell? ⟨g, i, none⟩ = some (.int .u16 (tab i : Nat)) := (Hd.out.cell i).trans (by rw [tabRow_at 256 i hlt8, if_pos hlt8])
      clear hi
      go_wp2_with fail
      go_roundw
      case rel => exact ⟨k + 1, by omega, by go_num, by rw [HT.out, Int.toNat_natCast]; exact congrArg _ HU.out, Hd.out, Hb.out⟩
      case measure => simp [intOf]; omega
    · obtain rfl : k = l.length := by omega
      rw [List.take_length]
      go_wp2_with fail
      go_ret
      exact ⟨rfl, Hb.out⟩
end Go.Proofs.Ytafkabkoglbndaa
