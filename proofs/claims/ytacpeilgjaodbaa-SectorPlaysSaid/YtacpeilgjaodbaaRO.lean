/- The reference's disk: its small methods, and Read. -/
import Derived.Test.YtacpeilgjaodbaaRN
import Derived.Laws.IdiomStrings
namespace Go.Proofs.Ytacpeilgjaodbaa
open Go.RowKit Go.Proofs.YtacpeilgjaodbaaW.PrintWords Go.Proofs.YtacpeilgjaodbaaW.PrintLast Go.Proofs.YtacpeilgjaodbaaW.PrintMore
attribute [local go_sem] max2_int min2_int max_two min_two
set_option linter.unusedVariables false
set_option linter.unusedSimpArgs false
/-- The reference's disk as data: sectors, is it down, After, Bytes, how many were written. -/
structure Rk where
  rows : List (List Int)
  down : Bool
  after : Int
  bytes : Int
  wrote : Int
structure IsRk (w : World) (B g : Nat) (R : Rk) : Prop where
  blk : ∃ v torn was meant, w.heap[g]? = some (.cells (refCells v R.down R.after R.bytes R.wrote torn was meant) 49 (0, 0)) ∧ Kd.R Kd.string 9 w B (fun _ => True) v (R.rows.map strOfNums)
  bg : B ≤ g
  pos : 0 < R.rows.length
  big : R.rows.length ≤ 256
def RefT : List TypeId := [49, 9]
theorem row_at {w : World} {B : Nat} {v : Value} {xs : List ByteArray} (h : Kd.R Kd.string 9 w B (fun _ => True) v xs) (h0 : 0 < xs.length) :
    ∃ r c cur, v = .slice (some ⟨r, 0, none⟩) xs.length c ∧ B ≤ r ∧ w.heap[r]? = some (.cells cur 9 (0, 0)) ∧ ∀ j (hj : j < xs.length), cur[j]? = some (.string xs[j]) := by
  obtain ⟨A, c, hv, hlc, hC⟩ := Kd.R_reads h
  obtain ⟨inner, hown⟩ := Kd.R_own h
  rcases hown.2 with ⟨e, hz⟩ | ⟨r, cap, cur, e, hb, hblk, _⟩
  · rw [hv] at e; injection e with _ e2 _; omega
  rw [hv] at e
  injection e with e1 _ e3
  subst e1 e3
  refine ⟨r, c, cur, hv, hb, hblk, fun j hj => ?_⟩
  obtain ⟨ad, cs, e, _, hK, hcc⟩ := Kd.C_get hC ⟨#[]⟩ (j : Int) (by omega) (by omega)
  injection e with e
  subst e
  rw [Int.toNat_natCast] at hK hcc
  have hk : cs = [Value.string (xs.getD j ⟨#[]⟩)] := hK
  subst hk
  have := hcc 0 _ rfl
  have hsz : j * Kd.string.sz + 0 = j := Nat.mul_one j
  rw [hsz, add_at, Nat.zero_add, blk_cell hblk] at this
  rw [this, List.getD_eq_getElem?_getD, List.getElem?_eq_getElem hj]; rfl
theorem kt_set {w : World} {g : Nat} {cs : Array Value} {t : TypeId} {T : List TypeId} (hg : w.heap[g]? = some (.cells cs t (0, 0))) (ht : t ∈ T) (i : Nat) (u : Value) : KeepT T w (w.setCell ⟨g, i, none⟩ u) := ((Kp.refl w g).set i u).kt hg ht
theorem IsRk.keep {w w' : World} {B g : Nat} {R : Rk} {T : List TypeId} (h : IsRk w B g R) (hk : KeepT T w w') (h1 : 49 ∉ T) (h2 : 9 ∉ T) : IsRk w' B g R := by
  obtain ⟨v, torn, was, meant, hg, hr⟩ := h.blk
  refine ⟨⟨v, torn, was, meant, hk.cells hg h1, ?_⟩, h.bg, h.pos, h.big⟩
  refine Kd.R_mono (Kd.R_move (Kd.R_bound hr) (fun k hk2 => ?_)) (fun _ _ => trivial)
  obtain ⟨_, _, _, q, hq, cells, hc⟩ := hk2
  have hq9 : q = 9 := by
    rcases List.mem_cons.1 hq with rfl | h
    · rfl
    · cases h
  subst hq9
  rw [hc]; exact hk.cells hc h2
theorem IsDisk.keep {w w' : World} {B g r : Nat} {D : Dk} {T : List TypeId} (h : IsDisk w B g r D) (hk : KeepT T w w') (h1 : 46 ∉ T) (h2 : 52 ∉ T) (h3 : 54 ∉ T) : IsDisk w' B g r D := by
  obtain ⟨p, hg, hc⟩ := h.blk
  refine ⟨⟨p, hk.cells hg h1, ?_⟩, hk.cells h.row h2, h.len, h.byt, h.ne, h.bg, h.br, h.big⟩
  revert hc
  cases D.cut with
  | none => exact fun h => h
  | some x =>
    obtain ⟨a, b⟩ := x
    rintro ⟨q, e, a1, a2, a3, hq, rest⟩
    exact ⟨q, e, a1, a2, a3, hk.cells hq h3, rest⟩
/-- What a method of the reference's disk leaves. -/
def RefPost (w : World) (B g : Nat) (R : Rk) (e : Ending) (w' : World) : Prop := (∃ v, e = .returned v) ∧ IsRk w' B g R ∧ Below B w w' ∧ KeepT RefT w w'
theorem rmany_any (B g : Nat) (R : Rk) (w : World) (h : IsRk w B g R) : Calls Try.prog 25 #[.pointer (some ⟨g, 0, none⟩)] w fun e w' => e = .returned (.int .i64 (R.rows.length : Int)) ∧ w = w' := by
  obtain ⟨v, torn, was, meant, hg, hr⟩ := h.blk
  obtain ⟨A, c, rfl⟩ := Kd.R_slice hr
  have hc0 : w.cell? ⟨g, 0, none⟩ = some (.slice A (R.rows.map strOfNums).length c) := (blk_cell hg 0).trans rfl
  rw [List.length_map] at hc0
  clear hg hr h
  go_enter Try.func25, Try.ntmps25
  go_wp2_with fail
  go_ret
  exact ⟨rfl, rfl⟩
theorem rwrites_any (B g : Nat) (R : Rk) (w : World) (h : IsRk w B g R) : Calls Try.prog 23 #[.pointer (some ⟨g, 0, none⟩)] w fun e w' => e = .returned (.int .i64 R.wrote) ∧ w = w' := by
  obtain ⟨v, torn, was, meant, hg, hr⟩ := h.blk
  have hc0 : w.cell? ⟨g, 4, none⟩ = some (.int .i64 R.wrote) := (blk_cell hg 4).trans rfl
  clear hg hr h
  go_enter Try.func23, Try.ntmps23
  go_wp2_with fail
  go_ret
  exact ⟨rfl, rfl⟩
theorem rdown_any (B g : Nat) (R : Rk) (w : World) (h : IsRk w B g R) : Calls Try.prog 21 #[.pointer (some ⟨g, 0, none⟩)] w fun e w' => e = .returned (.bool R.down) ∧ w = w' := by
  obtain ⟨v, torn, was, meant, hg, hr⟩ := h.blk
  have hc0 : w.cell? ⟨g, 1, none⟩ = some (.bool R.down) := (blk_cell hg 1).trans rfl
  clear hg hr h
  go_enter Try.func21, Try.ntmps21
  go_wp2_with fail
  go_ret
  exact ⟨rfl, rfl⟩
def rboot (R : Rk) : Rk := { R with down := false, after := -1 }
theorem rboot_any (B g : Nat) (R : Rk) (w : World) (h : IsRk w B g R) : Calls Try.prog 17 #[.pointer (some ⟨g, 0, none⟩)] w (RefPost w B g (rboot R)) := by
  obtain ⟨v, torn, was, meant, hg, hr⟩ := h.blk
  have hc1 : w.cell? ⟨g, 1, none⟩ = some (.bool R.down) := (blk_cell hg 1).trans rfl
  have hc2 : w.cell? ⟨g, 2, none⟩ = some (.int .i64 R.after) := (blk_cell hg 2).trans rfl
  have hf1 := blk_frozen hg 1
  have hf2 := blk_frozen hg 2
  have HG := Lib.hid hg
  have HR := Lib.hid hr
  have HH := Lib.hid h
  have HBW : Hid (B ≤ w.heap.size) := Lib.hid (Nat.le_trans h.bg (Nat.le_of_lt (blk_lt hg)))
  clear hg hr h
  go_enter Try.func17, Try.ntmps17
  go_wp2_with fail
  go_end0
  have h1 := blk_put HG.out 1 (.bool false) (cs' := refCells v false R.after R.bytes R.wrote torn was meant) rfl
  have h2 := blk_put h1 2 (.int .i64 (-1)) (cs' := refCells v false (-1) R.bytes R.wrote torn was meant) rfl
  exact ⟨⟨_, rfl⟩, ⟨⟨v, torn, was, meant, h2, Kd.R_set (Kd.R_set HR.out HG.out (by decide) 1 _) h1 (by decide) 2 _⟩, HH.out.bg, HH.out.pos, HH.out.big⟩, (((Kp.refl w g).set 1 _).set 2 _).below HH.out.bg HBW.out, (((Kp.refl w g).set 1 _).set 2 _).kt HG.out (by decide)⟩
def rcut (R : Rk) (a b : Int) : Rk := if 0 ≤ a then { R with after := a, bytes := clamp b } else R
theorem rcut_any (B g : Nat) (R : Rk) (a b : Int) (w : World) (h : IsRk w B g R) : Calls Try.prog 15 #[.pointer (some ⟨g, 0, none⟩), .int .i64 a, .int .i64 b] w (RefPost w B g (rcut R a b)) := by
  obtain ⟨v, torn, was, meant, hg, hr⟩ := h.blk
  have HH := Lib.hid h
  have HBW : Hid (B ≤ w.heap.size) := Lib.hid (Nat.le_trans h.bg (Nat.le_of_lt (blk_lt hg)))
  by_cases ha : 0 ≤ a
  · have h1 : (if b < 0 then (0 : Int) else b) = max b 0 := by rw [Int.max_def]; split <;> split <;> omega
    obtain ⟨x, hx⟩ : ∃ x : Int, (if b < 0 then (0 : Int) else b) = x := ⟨_, rfl⟩
    obtain ⟨y, hy⟩ : ∃ y : Int, (if (64 : Int) < x then (64 : Int) else x) = y := ⟨_, rfl⟩
    have hyc : clamp b = y := by unfold clamp; rw [← h1, hx, ← hy, Int.min_def]; split <;> split <;> omega
    have HY := Lib.hid hyc
    have HA := Lib.hid ha
    have hc2 : w.cell? ⟨g, 2, none⟩ = some (.int .i64 R.after) := (blk_cell hg 2).trans rfl
    have hc3 : w.cell? ⟨g, 3, none⟩ = some (.int .i64 R.bytes) := (blk_cell hg 3).trans rfl
    have hf2 := blk_frozen hg 2
    have hf3 := blk_frozen hg 3
    have HG := Lib.hid hg
    have HR := Lib.hid hr
    clear hg hr h h1 hyc
    go_enter Try.func15, Try.ntmps15
    go_wp2_with fail
    go_end0
    have h2 := blk_put HG.out 2 (.int .i64 a) (cs' := refCells v R.down a R.bytes R.wrote torn was meant) rfl
    have h3 := blk_put h2 3 (.int .i64 y) (cs' := refCells v R.down a y R.wrote torn was meant) rfl
    have e : rcut R a b = { R with after := a, bytes := y } := by unfold rcut; rw [if_pos HA.out, HY.out]
    rw [e]
    exact ⟨⟨_, rfl⟩, ⟨⟨v, torn, was, meant, h3, Kd.R_set (Kd.R_set HR.out HG.out (by decide) 2 _) h2 (by decide) 3 _⟩, HH.out.bg, HH.out.pos, HH.out.big⟩, (((Kp.refl w g).set 2 _).set 3 _).below HH.out.bg HBW.out, (((Kp.refl w g).set 2 _).set 3 _).kt HG.out (by decide)⟩
  · have e : rcut R a b = R := by unfold rcut; rw [if_neg ha]
    have HE := Lib.hid e
    clear e h hg hr
    go_enter Try.func15, Try.ntmps15
    go_wp2_with fail
    go_end0
    rw [HE.out]
    exact ⟨⟨_, rfl⟩, HH.out, Below.refl _ _, KeepT.refl _ _⟩
def rreadOf (R : Rk) (i : Int) : List Int × Int := if R.down then ([], 101) else if i < 0 then ([], 1) else if (R.rows.length : Int) ≤ i then ([], 1) else (R.rows.getD i.toNat [], 0)
theorem bytes_C {W : World} {r : Nat} {t : TypeId} {fr : Nat × Nat} {l : List Int} {cap : Nat} (hb : Bytes l) (hl : l.length ≤ 1000000) (hg : W.heap[r]? = some (.cells (bytesRow (strOfNums l) cap) t fr)) : Kd.C (Kd.int .u8) W (some ⟨r, 0, none⟩) l.length l := by
  refine ⟨rfl, by omega, fun _ => ⟨_, rfl, fun j p hp => ⟨[.int .u8 p], rfl, rfl, fun i u hu => ?_⟩⟩⟩
  obtain rfl : i = 0 := by
    have := (List.getElem?_eq_some_iff.1 hu).1; simp at this; exact this
  obtain rfl : _ = u := by simpa using hu
  have hsz : j * (Kd.int .u8).sz + 0 = j := Nat.mul_one j
  obtain ⟨hj, hjp⟩ := List.getElem?_eq_some_iff.1 hp
  have hbp := hb p (by rw [← hjp]; exact List.getElem_mem hj)
  rw [hsz, add_at, Nat.zero_add, cell_of_row W r _ _ t fr hg]
  unfold bytesRow strOfNums
  rw [Array.getElem?_append_left (by simp; exact hj)]
  simp [hp]
  omega
set_option maxRecDepth 100000 in
set_option maxHeartbeats 2000000 in
theorem rread_any (B g : Nat) (R : Rk) (i : Int) (w : World) (h : IsRk w B g R) (hby : ∀ l ∈ R.rows, Bytes l ∧ l.length = 64) (x : List Int × Int) (hx : rreadOf R i = x) : Calls Try.prog 13 #[.pointer (some ⟨g, 0, none⟩), .int .i64 i] w (ReadPost w x) := by
  obtain ⟨v, torn, was, meant, hg, hr⟩ := h.blk
  obtain ⟨r, c, cur, rfl, hbr, hrow, hat⟩ := row_at hr (by rw [List.length_map]; exact h.pos)
  rw [List.length_map] at hg
  have hc0 : w.cell? ⟨g, 0, none⟩ = some (.slice (some ⟨r, 0, none⟩) R.rows.length c) := (blk_cell hg 0).trans rfl
  have hc1 : w.cell? ⟨g, 1, none⟩ = some (.bool R.down) := (blk_cell hg 1).trans rfl
  unfold rreadOf at hx
  by_cases hd : R.down = true
  · rw [if_pos hd] at hx
    subst hx
    rw [hd] at hc1
    clear hg h hd hr hrow hat hby
    go_enter Try.func13, Try.ntmps13
    go_wp2_with fail
    go_ret2
    exact ⟨none, 0, rfl, Nat.le_refl _, Kd.C_nil _ _, Below.refl _ _⟩
  rw [if_neg hd] at hx
  have hdf : R.down = false := by simpa using hd
  rw [hdf] at hc1
  by_cases h0 : i < 0
  · rw [if_pos h0] at hx
    subst hx
    clear hg h hd hr hrow hat hby hdf
    go_enter Try.func13, Try.ntmps13
    go_wp2_with fail
    go_ret2
    exact ⟨none, 0, rfl, Nat.le_refl _, Kd.C_nil _ _, Below.refl _ _⟩
  rw [if_neg h0] at hx
  by_cases h1 : (R.rows.length : Int) ≤ i
  · rw [if_pos h1] at hx
    subst hx
    clear hg h hd hr hrow hat hby hdf
    go_enter Try.func13, Try.ntmps13
    go_wp2_with fail
    go_ret2
    exact ⟨none, 0, rfl, Nat.le_refl _, Kd.C_nil _ _, Below.refl _ _⟩
  rw [if_neg h1] at hx
  obtain ⟨j, rfl⟩ := Int.eq_ofNat_of_zero_le (show 0 ≤ i by omega)
  have hj : j < R.rows.length := by omega
  have hji : (j : Int) < (R.rows.length : Int) := by omega
  rw [Int.toNat_natCast, List.getD_eq_getElem?_getD, List.getElem?_eq_getElem hj] at hx
  obtain ⟨l, hl⟩ : ∃ l, R.rows[j] = l := ⟨_, rfl⟩
  have hjc := hat j (by rw [List.length_map]; exact hj)
  rw [List.getElem_map, hl] at hjc
  have hcj : w.cell? ⟨r, 0 + j, none⟩ = some (.string (strOfNums l)) := by rw [Nat.zero_add, blk_cell hrow]; exact hjc
  have hcj' : w.cell? ⟨r, j, none⟩ = some (.string (strOfNums l)) := by rw [blk_cell hrow]; exact hjc
  have hbl := hby l (by rw [← hl]; exact List.getElem_mem hj)
  have hcv := run_bytes_of_string (P := Try.prog) w 9 29 5 (strOfNums l) Try.underlying9 Try.underlying29 Try.underlying5
  have HX := Lib.hid hx
  have HBL := Lib.hid hbl
  have HL := Lib.hid hl
  clear hg h hd hr hrow hat hby hdf h0 h1 hx hl hbl hjc
  go_enter Try.func13, Try.ntmps13
  go_wp2_with fail
  go_ret2
  have hx2 : x = (l, 0) := by
    rw [← HX.out, ← HL.out]; rfl
  rw [hx2]
  have hsz := strOfNums_size l
  rw [hsz]
  have hgc := grownCap_ge w l.length 0 5
  have hnb := blk_new w (.cells (bytesRow (strOfNums l) (grownCap w l.length 0 5)) 5 ((bytesRow (strOfNums l) (grownCap w l.length 0 5)).size, (bytesRow (strOfNums l) (grownCap w l.length 0 5)).size + 1))
  exact ⟨_, _, rfl, hgc, bytes_C HBL.out.1 (by rw [HBL.out.2]; decide) (show (World.drew _).heap[w.heap.size]? = _ from hnb), below_drew (below_alloc (Below.refl _ _) _)⟩
end Go.Proofs.Ytacpeilgjaodbaa
