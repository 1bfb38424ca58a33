/- The reference's Take. -/
import Derived.Test.YtinipcfnmngccaaC7
import Derived.Lib.SliceRun
namespace Go.Proofs.Ytinipcfnmngccaa
open Go.Conc Go.RowKit Go.Proofs.YtinipcfnmngccaaW.PrintWords Go.Proofs.YtinipcfnmngccaaW.PrintLast Go.Proofs.YtinipcfnmngccaaW.PrintMore
set_option linter.unusedVariables false
set_option linter.unusedSimpArgs false
theorem R_emptyo (w : World) (base : Nat) (ok : Nat → Prop) (hb : base ≤ w.heap.size) (hok : ok w.heap.size) : Kd.R (Kd.int .i64) 3 (w.alloc (.cells #[] 3)) base ok (.slice (some ⟨w.heap.size, 0, none⟩) 0 0) [] :=
  Kd.R_reok rfl (R_emptyi w base hb) (fun k hk => by rw [own_is] at hk; injection hk with hk; rw [← hk]; exact hok)
/-- A fresh row is made and grown, and a store into the block. -/
theorem RF.alloc_grown (w : World) (r : Nat) (cells : Array Value) {w1 : World} (hg : (w.alloc (.cells cells 3)).grownBy w1 (Value.slice (some ⟨w.heap.size, 0, none⟩) 0 0).ownBlock) (i : Nat) (u : Value) : RF w (w1.setCell ⟨r, i, none⟩ u) r := by
  refine ⟨by have := hg.size; simp [World.setCell] at this ⊢; omega, fun k hk hne _ => (Below.heap_setCell w1 _ u k hne).trans ((hg.block k (by simp; omega) (fun he => ?_)).trans (Below.heap_alloc w _ k hk))⟩
  rw [own_is] at he
  injection he with he
  omega

set_option maxRecDepth 100000 in
set_option maxHeartbeats 2000000 in
theorem rtake_u (base r n : Nat) (vU vO : Value) (us os : List Int) (x : Int) (m : List Int) (w : World) (hl : us.length ≤ 64) (hbr : base ≤ r) (hbw : base ≤ w.heap.size) (hxm : us = x :: m) (h : IsRf base w r n vU vO us os) :
    Calls Try.prog 12 #[.pointer (some ⟨r, 0, none⟩)] w fun e w' => e = .returned (.tuple #[.int .i64 x, .bool true]) ∧ RPost base w r n m os w' := by
  obtain ⟨A5, c5, rfl⟩ := Kd.R_slice h.ru
  obtain ⟨A6, c6, rfl⟩ := Kd.R_slice h.ro
  have hpos : 0 < us.length := by rw [hxm]; simp
  obtain ⟨ad, hA, hx0⟩ := Kd.at_int (Kd.R_reads' h.ru).2.2 0 (by omega) (by omega)
  subst hA
  have hrd : rd us 0 = x := by rw [hxm]; rfl
  rw [hrd] at hx0
  have hx : w.cell? ad = some (.int .i64 x) := by
    have e : ad.add (0 : Int).toNat = ad := by unfold Addr.add; simp
    rwa [e] at hx0
  have hlc := (Kd.R_reads' h.ru).2.1
  obtain ⟨i0, hi0, _, hsz, _⟩ := info_parts info3
  obtain ⟨A', hcut, hA', hC'⟩ := print_drop_of (P := Try.prog) (Value.int .i64) 0 37 3 .i64 Try.underlying37 hi0 hsz (some ad) c5 us 1 (by omega) (by omega) hlc
  have hD := Kd.C_of_reads (h1 := fun _ => rfl) (hA' _ (Kd.reads_of_C (Kd.R_reads' h.ru).2.2))
  have hdm : us.drop (1 : Int).toNat = m := by rw [hxm]; rfl
  rw [hdm] at hcut hD
  obtain ⟨c', hc'⟩ : ∃ c' : Nat, c5 - (1 : Int).toNat = c' := ⟨_, rfl⟩
  rw [hc'] at hcut
  have hml : m.length ≤ 64 := by have := congrArg List.length hxm; simp at this; omega
  have HD := Lib.hid (Kd.C_alloc hD (.cells #[] 3))
  have hok : ∀ k, w.heap.size ≤ k → some k ≠ (Value.slice A6 os.length c6).ownBlock := Kd.fresh_ok h.ro
  have HE : Hid (Kd.R (Kd.int .i64) 3 (w.alloc (.cells #[] 3)) base (fun k => True ∧ some k ≠ (Value.slice A6 os.length c6).ownBlock) (.slice (some ⟨w.heap.size, 0, none⟩) 0 0) []) := Lib.hid (R_emptyo w base _ hbw ⟨trivial, hok _ (Nat.le_refl _)⟩)
  have HOK : Hid (∀ k, (w.alloc (.cells #[] 3)).heap.size ≤ k → some k ≠ (Value.slice A6 os.length c6).ownBlock) := Lib.hid (fun k hk => hok k (by simp at hk; omega))
  have HY : Hid (Kd.R (Kd.int .i64) 3 (w.alloc (.cells #[] 3)) base (fun k => True ∧ some k ≠ (Value.slice (some ⟨w.heap.size, 0, none⟩) 0 0).ownBlock) (.slice A6 os.length c6) os) := Lib.hid (Kd.R_alloc (Kd.R_reok rfl h.ro (fun k hk => ⟨trivial, by rw [own_is]; intro he; injection he with he; have := Kd.R_lt h.ro k hk; omega⟩)) _)
  have HBW : Hid (Below base w (w.alloc (.cells #[] 3))) := Lib.hid ((Below.refl _ _).alloc hbw _)
  have HSZ : Hid (base ≤ (w.alloc (.cells #[] 3)).heap.size) := Lib.hid (by simp; omega)
  have HL : Hid ((([] : List Int).length + m.length) * 8 ≤ 140737488355328) := Lib.hid (by simp; omega)
  have hblk := blk_alloc h.blk (.cells #[] 3)
  have g1 : (w.alloc (.cells #[] 3)).cell? ⟨r, 1, none⟩ = some (.slice (some ad) us.length c5) := (blk_cell hblk 1).trans rfl
  have h1 : w.cell? ⟨r, 1, none⟩ = some (.slice (some ad) us.length c5) := (h.cell 1).trans rfl
  have h2 : w.cell? ⟨r, 2, none⟩ = some (.slice A6 os.length c6) := (h.cell 2).trans rfl
  have HBLK := Lib.hid hblk
  have HFR : Hid (RF w (w.alloc (.cells #[] 3)) r) := Lib.hid ⟨by simp, fun k hk _ _ => Below.heap_alloc w _ k hk⟩
  clear hblk hok hD hA' hC' hi0 hsz hc' hdm hrd hx0 hlc h hxm
  clear h2
  go_enter Try.func12, Try.ntmps12
  go_wp2_with (at_builtin; refine Kd.R_append_rows (Kd.int .i64) (w0 := w) base rfl (.tmp 19) (.tmp 24) 37 3 (.int .i64 0) 8 rfl Try.underlying37 info3 rfl (by decide) (by decide) _ [] m _ _ _ (fun k => True ∧ some k ≠ (Value.slice A6 os.length c6).ownBlock) (fun _ => False) rfl rfl HE.out HD.out (fun _ _ h => h) (fun _ h => h.elim) (fun k hk => ⟨trivial, HOK.out k hk⟩) HBW.out HSZ.out HL.out ?_; intro v1 w4 hR hB4 hG hA; rw [List.nil_append] at hR; obtain ⟨A1, c1, rfl⟩ := Kd.R_slice hR; have HR4 := Lib.hid hR; have HY4 := Lib.hid (Kd.R_after HY.out hG hA); have hblk := (hG.block r (blk_lt HBLK.out) (fun he => by obtain ⟨cells, hc⟩ := Kd.R_typed HE.out r he.symm; rw [HBLK.out] at hc; injection hc with hc; injection hc with _ ht; exact absurd ht (by decide))).trans HBLK.out; have hc1 := blk_cell hblk 1; have hf1 := blk_frozen hblk 1; have HBK := Lib.hid hblk; have HB4 := Lib.hid hB4; have HF4 := Lib.hid (RF.alloc_grown w r #[] hG); clear hR hB4 hA hblk hG)
  go_ret2
  refine ⟨rfl, .slice A1 m.length c1, _, ⟨blk_put HBK.out 1 (.slice A1 m.length c1) rfl, ?_, ?_⟩, HF4.out 1 _, HB4.out.setCell hbr _⟩
  · exact Kd.R_set HR4.out HBK.out ne3 1 _
  · exact Kd.R_set HY4.out HBK.out ne3 1 _

set_option maxRecDepth 100000 in
set_option maxHeartbeats 2000000 in
theorem rtake_o (base r n : Nat) (vU vO : Value) (us os : List Int) (x : Int) (m : List Int) (w : World) (hl : os.length ≤ 64) (hbr : base ≤ r) (hbw : base ≤ w.heap.size) (hxm : os = x :: m) (hu0 : us = []) (h : IsRf base w r n vU vO us os) :
    Calls Try.prog 12 #[.pointer (some ⟨r, 0, none⟩)] w fun e w' => e = .returned (.tuple #[.int .i64 x, .bool true]) ∧ RPost base w r n us m w' := by
  obtain ⟨A5, c5, rfl⟩ := Kd.R_slice h.ru
  obtain ⟨A6, c6, rfl⟩ := Kd.R_slice h.ro
  have hpos : 0 < os.length := by rw [hxm]; simp
  obtain ⟨ad, hA, hx0⟩ := Kd.at_int (Kd.R_reads' h.ro).2.2 0 (by omega) (by omega)
  subst hA
  have hrd : rd os 0 = x := by rw [hxm]; rfl
  rw [hrd] at hx0
  have hx : w.cell? ad = some (.int .i64 x) := by
    have e : ad.add (0 : Int).toNat = ad := by unfold Addr.add; simp
    rwa [e] at hx0
  have hlc := (Kd.R_reads' h.ro).2.1
  obtain ⟨i0, hi0, _, hsz, _⟩ := info_parts info3
  obtain ⟨A', hcut, hA', hC'⟩ := print_drop_of (P := Try.prog) (Value.int .i64) 0 37 3 .i64 Try.underlying37 hi0 hsz (some ad) c6 os 1 (by omega) (by omega) hlc
  have hD := Kd.C_of_reads (h1 := fun _ => rfl) (hA' _ (Kd.reads_of_C (Kd.R_reads' h.ro).2.2))
  have hdm : os.drop (1 : Int).toNat = m := by rw [hxm]; rfl
  rw [hdm] at hcut hD
  obtain ⟨c', hc'⟩ : ∃ c' : Nat, c6 - (1 : Int).toNat = c' := ⟨_, rfl⟩
  rw [hc'] at hcut
  have hml : m.length ≤ 64 := by have := congrArg List.length hxm; simp at this; omega
  have HD := Lib.hid (Kd.C_alloc hD (.cells #[] 3))
  have hok : ∀ k, w.heap.size ≤ k → some k ≠ (Value.slice A5 us.length c5).ownBlock := Kd.fresh_ok h.ru
  have HE : Hid (Kd.R (Kd.int .i64) 3 (w.alloc (.cells #[] 3)) base (fun k => True ∧ some k ≠ (Value.slice A5 us.length c5).ownBlock) (.slice (some ⟨w.heap.size, 0, none⟩) 0 0) []) := Lib.hid (R_emptyo w base _ hbw ⟨trivial, hok _ (Nat.le_refl _)⟩)
  have HOK : Hid (∀ k, (w.alloc (.cells #[] 3)).heap.size ≤ k → some k ≠ (Value.slice A5 us.length c5).ownBlock) := Lib.hid (fun k hk => hok k (by simp at hk; omega))
  have HY : Hid (Kd.R (Kd.int .i64) 3 (w.alloc (.cells #[] 3)) base (fun k => True ∧ some k ≠ (Value.slice (some ⟨w.heap.size, 0, none⟩) 0 0).ownBlock) (.slice A5 us.length c5) us) := Lib.hid (Kd.R_alloc (Kd.R_reok rfl h.ru (fun k hk => ⟨trivial, by rw [own_is]; intro he; injection he with he; have := Kd.R_lt h.ru k hk; omega⟩)) _)
  have HBW : Hid (Below base w (w.alloc (.cells #[] 3))) := Lib.hid ((Below.refl _ _).alloc hbw _)
  have HSZ : Hid (base ≤ (w.alloc (.cells #[] 3)).heap.size) := Lib.hid (by simp; omega)
  have HL : Hid ((([] : List Int).length + m.length) * 8 ≤ 140737488355328) := Lib.hid (by simp; omega)
  have hblk := blk_alloc h.blk (.cells #[] 3)
  have g1 : (w.alloc (.cells #[] 3)).cell? ⟨r, 2, none⟩ = some (.slice (some ad) os.length c6) := (blk_cell hblk 2).trans rfl
  have h1 : w.cell? ⟨r, 1, none⟩ = some (.slice A5 us.length c5) := (h.cell 1).trans rfl
  have h2 : w.cell? ⟨r, 2, none⟩ = some (.slice (some ad) os.length c6) := (h.cell 2).trans rfl
  have HBLK := Lib.hid hblk
  have HFR : Hid (RF w (w.alloc (.cells #[] 3)) r) := Lib.hid ⟨by simp, fun k hk _ _ => Below.heap_alloc w _ k hk⟩
  clear hblk hok hD hA' hC' hi0 hsz hc' hdm hrd hx0 hlc h hxm
  have hu1 : us.length = 0 := (by rw [hu0]; rfl)
  rw [hu1] at h1
  have HU1 := Lib.hid hu1
  clear hu0 hu1
  go_enter Try.func12, Try.ntmps12
  go_wp2_with (at_builtin; refine Kd.R_append_rows (Kd.int .i64) (w0 := w) base rfl (.tmp 42) (.tmp 47) 37 3 (.int .i64 0) 8 rfl Try.underlying37 info3 rfl (by decide) (by decide) _ [] m _ _ _ (fun k => True ∧ some k ≠ (Value.slice A5 us.length c5).ownBlock) (fun _ => False) rfl rfl HE.out HD.out (fun _ _ h => h) (fun _ h => h.elim) (fun k hk => ⟨trivial, HOK.out k hk⟩) HBW.out HSZ.out HL.out ?_; intro v1 w4 hR hB4 hG hA; rw [List.nil_append] at hR; obtain ⟨A1, c1, rfl⟩ := Kd.R_slice hR; have HR4 := Lib.hid hR; have HY4 := Lib.hid (Kd.R_after HY.out hG hA); have hblk := (hG.block r (blk_lt HBLK.out) (fun he => by obtain ⟨cells, hc⟩ := Kd.R_typed HE.out r he.symm; rw [HBLK.out] at hc; injection hc with hc; injection hc with _ ht; exact absurd ht (by decide))).trans HBLK.out; have hc1 := blk_cell hblk 2; have hf1 := blk_frozen hblk 2; have HBK := Lib.hid hblk; have HB4 := Lib.hid hB4; have HF4 := Lib.hid (RF.alloc_grown w r #[] hG); clear hR hB4 hA hblk hG)
  go_ret2
  refine ⟨rfl, _, .slice A1 m.length c1, ⟨blk_put HBK.out 2 (.slice A1 m.length c1) rfl, ?_, ?_⟩, HF4.out 2 _, HB4.out.setCell hbr _⟩
  · exact Kd.R_set HY4.out HBK.out ne3 2 _
  · exact Kd.R_set HR4.out HBK.out ne3 2 _

theorem rtake_none (base r n : Nat) (vU vO : Value) (w : World) (h : IsRf base w r n vU vO [] []) :
    Calls Try.prog 12 #[.pointer (some ⟨r, 0, none⟩)] w fun e w' => e = .returned (.tuple #[.int .i64 0, .bool false]) ∧ RPost base w r n [] [] w' := by
  obtain ⟨A5, c5, rfl⟩ := Kd.R_slice h.ru
  obtain ⟨A6, c6, rfl⟩ := Kd.R_slice h.ro
  have h1 : w.cell? ⟨r, 1, none⟩ = some (.slice A5 0 c5) := (h.cell 1).trans rfl
  have h2 : w.cell? ⟨r, 2, none⟩ = some (.slice A6 0 c6) := (h.cell 2).trans rfl
  have H := Lib.hid h
  clear h
  go_enter Try.func12, Try.ntmps12
  go_wp2_with fail
  go_ret2
  exact ⟨rfl, _, _, H.out, RF.refl _ _, Below.refl _ _⟩
theorem rtake_any (base r n : Nat) (vU vO : Value) (us os : List Int) (w : World) (hu : us.length ≤ 64) (ho : os.length ≤ 64) (hbr : base ≤ r) (hbw : base ≤ w.heap.size) (h : IsRf base w r n vU vO us os) :
    Calls Try.prog 12 #[.pointer (some ⟨r, 0, none⟩)] w fun e w' => e = .returned (.tuple #[.int .i64 (qtake 0 us os).1, .bool (qtake 0 us os).2.1]) ∧ RPost base w r n (qtake 0 us os).2.2.1 (qtake 0 us os).2.2.2 w' := by
  cases us with
  | cons x m => exact rtake_u base r n vU vO (x :: m) os x m w hu hbr hbw rfl h
  | nil =>
    cases os with
    | cons x m => exact rtake_o base r n vU vO [] (x :: m) x m w ho hbr hbw rfl rfl h
    | nil => exact rtake_none base r n vU vO w h
theorem rput_any (base r n : Nat) (vU vO : Value) (us os : List Int) (u : Bool) (x : Int) (w : World) (hu : us.length ≤ 64) (ho : os.length ≤ 64) (hbr : base ≤ r) (hbw : base ≤ w.heap.size) (h : IsRf base w r n vU vO us os) :
    Calls Try.prog 16 #[.pointer (some ⟨r, 0, none⟩), .bool u, .int .i64 x] w fun e w' => e = .returned (.bool (qput n u x us os).1) ∧ RPost base w r n (qput n u x us os).2.1 (qput n u x us os).2.2 w' := by
  cases u with
  | true => exact rput_u base r n vU vO us os x w hu hbr hbw h
  | false => exact rput_o base r n vU vO us os x w ho hbr hbw h
end Go.Proofs.Ytinipcfnmngccaa
