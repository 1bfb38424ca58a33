/- The disk and the reference's: what ties them. -/
import Derived.Test.YtacpeilgjaodbaaRW
import Derived.Test.YtacpeilgjaodbaaP1
namespace Go.Proofs.Ytacpeilgjaodbaa
open Go.RowKit
set_option linter.unusedVariables false
set_option linter.unusedSimpArgs false
structure Rel (D : Dk) (R : Rk) : Prop where
  rows : R.rows = (List.range D.n).map (sect D)
  down : R.down = D.down
  wrote : R.wrote = D.wrote
  none_ : D.cut = none → R.after = -1
  some_ : ∀ a k, D.cut = some (a, k) → R.after = a ∧ R.bytes = k ∧ 0 ≤ a
  byt : 0 ≤ R.bytes ∧ R.bytes ≤ 64
  aft : -1 ≤ R.after ∧ R.after ≤ 9223372036854775807
theorem Rel.len {D : Dk} {R : Rk} (h : Rel D R) : R.rows.length = D.n := by rw [h.rows]; simp
theorem Rel.at_ {D : Dk} {R : Rk} (h : Rel D R) {i : Nat} (hi : i < D.n) : R.rows.getD i [] = sect D i := by
  rw [h.rows]; simp [List.getD_eq_getElem?_getD, List.getElem?_range hi]
theorem Rel.secs {D : Dk} {R : Rk} (h : Rel D R) (hl : D.rows.length = 64 * D.n) (hb : Bytes D.rows) : ∀ l ∈ R.rows, Bytes l ∧ l.length = 64 := by
  intro l hm
  rw [h.rows] at hm
  obtain ⟨j, hj, rfl⟩ := List.mem_map.1 hm
  have hj := List.mem_range.1 hj
  refine ⟨fun x hx => hb x (List.mem_of_mem_drop (List.mem_of_mem_take hx)), ?_⟩
  unfold sect; rw [List.length_take, List.length_drop, hl]; omega
theorem rel_new (m : Int) : Rel (new m) ⟨List.replicate (manyOf m) (List.replicate 64 0), false, -1, 0, 0⟩ := by
  refine ⟨?_, rfl, rfl, fun _ => rfl, fun a k h => (by cases h), ⟨by show (0 : Int) ≤ 0; omega, by show (0 : Int) ≤ 64; omega⟩, ⟨by show (-1 : Int) ≤ -1; omega, by show (-1 : Int) ≤ 9223372036854775807; omega⟩⟩
  apply List.ext_getElem?
  intro i
  show (List.replicate (manyOf m) (List.replicate 64 (0 : Int)))[i]? = ((List.range (manyOf m)).map (sect (new m)))[i]?
  rw [List.getElem?_replicate, List.getElem?_map]
  by_cases hi : i < manyOf m
  · rw [if_pos hi, List.getElem?_range hi]
    show _ = some (sect (new m) i)
    congr 1
    unfold sect new
    show _ = ((List.replicate (manyOf m * 64) (0 : Int)).drop (i * 64)).take 64
    rw [List.drop_replicate, List.take_replicate, Nat.min_eq_left (by omega)]
  · rw [if_neg hi, List.getElem?_eq_none (by rw [List.length_range]; omega)]; rfl
theorem rel_cut {D : Dk} {R : Rk} (h : Rel D R) (a b : Int) (ha : a ≤ 9223372036854775807) : Rel (cut D a b) (rcut R a b) := by
  unfold cut rcut
  by_cases h0 : 0 ≤ a
  · rw [if_pos h0, if_pos h0]
    refine ⟨h.rows, h.down, h.wrote, fun e => (by cases e), fun x k e => ?_, ?_, ⟨by show (-1 : Int) ≤ a; omega, by show a ≤ (9223372036854775807 : Int); omega⟩⟩
    · injection e with e; injection e with e1 e2; subst e1; subst e2; exact ⟨rfl, rfl, h0⟩
    · show 0 ≤ clamp b ∧ clamp b ≤ 64
      unfold clamp; omega
  · rw [if_neg h0, if_neg h0]; exact h
theorem rel_boot {D : Dk} {R : Rk} (h : Rel D R) : Rel (boot D) (rboot R) := ⟨h.rows, rfl, h.wrote, fun _ => rfl, fun a k e => (by cases e), h.byt, ⟨by show (-1 : Int) ≤ -1; omega, by show (-1 : Int) ≤ 9223372036854775807; omega⟩⟩
theorem rel_read {D : Dk} {R : Rk} (h : Rel D R) (i : Int) : rreadOf R i = readOf D i := by
  unfold rreadOf readOf
  rw [h.down, h.len]
  by_cases h1 : D.down = true
  · rw [if_pos h1, if_pos h1]
  rw [if_neg h1, if_neg h1]
  by_cases h2 : i < 0
  · rw [if_pos h2, if_pos h2]
  rw [if_neg h2, if_neg h2]
  by_cases h3 : (D.n : Int) ≤ i
  · rw [if_pos h3, if_pos h3]
  rw [if_neg h3, if_neg h3, h.at_ (by omega)]
theorem set_rows {D D' : Dk} {R : Rk} (h : Rel D R) {i : Nat} (hi : i < D.n) {v : List Int} (hn : D'.n = D.n) (hs : sect D' i = v) (ho : ∀ j : Nat, (j : Int) ≠ (i : Int) → sect D' j = sect D j) : R.rows.set i v = (List.range D'.n).map (sect D') := by
  rw [h.rows, hn]
  apply List.ext_getElem?
  intro j
  rw [List.getElem?_set, List.getElem?_map, List.getElem?_map]
  simp only [List.length_map, List.length_range]
  by_cases hj : j < D.n
  · rw [List.getElem?_range hj]
    by_cases e : i = j
    · subst e; rw [if_pos rfl, if_pos hi, ← hs]; rfl
    · rw [if_neg e]; exact congrArg some (ho j (by omega)).symm
  · rw [if_neg (by omega), List.getElem?_eq_none (by rw [List.length_range]; omega)]; rfl
theorem rel_write {D : Dk} {R : Rk} (h : Rel D R) (hl : D.rows.length = 64 * D.n) (i : Int) (b : List Int) : (rwriteOf R i b).1 = (writeOf D i b).1 ∧ Rel (writeOf D i b).2 (rwriteOf R i b).2 := by
  have ho := (write_other D i b hl).2
  by_cases h1 : D.down = true
  · have ew : writeOf D i b = (101, D) := by unfold writeOf; rw [if_pos h1]
    have er : rwriteOf R i b = (101, R) := by unfold rwriteOf; rw [h.down, if_pos h1]
    rw [ew, er]; exact ⟨rfl, h⟩
  by_cases h2 : i < 0 ∨ (D.n : Int) ≤ i ∨ 64 < b.length
  · have ew : writeOf D i b = (1, D) := by
      unfold writeOf; rw [if_neg h1]
      split
      · rfl
      split
      · rfl
      split
      · rfl
      omega
    have er : rwriteOf R i b = (1, R) := by
      unfold rwriteOf; rw [h.down, if_neg h1, h.len]
      split
      · rfl
      split
      · rfl
      split
      · rfl
      omega
    rw [ew, er]; exact ⟨rfl, h⟩
  obtain ⟨j, rfl⟩ := Int.eq_ofNat_of_zero_le (show 0 ≤ i by omega)
  have hj : j < D.n := by omega
  have h64 : b.length ≤ 64 := by omega
  have hd : D.down = false := by simpa using h1
  have hp := padOf_len (b := b) h64
  have er : rwriteOf R (j : Int) b = rput R j b := by unfold rwriteOf; rw [h.down, if_neg h1, h.len, if_neg (by omega), if_neg (by omega), if_neg (by omega), Int.toNat_natCast]
  have ew : writeOf D (j : Int) b = put D j b := by unfold writeOf; rw [if_neg h1, if_neg (by omega), if_neg (by omega), if_neg (by omega), Int.toNat_natCast]
  have hpad : ∀ D' : Dk, D'.rows = splice D.rows (j * 64) (padOf b) → sect D' j = padOf b := fun D' e => by
    rw [sect_secs, e]; exact secs_pad _ _ _ D.n hl hj hp
  rw [er]
  rw [ew] at ho ⊢
  cases hc : D.cut with
  | none =>
    have ha := h.none_ hc
    have e2 : put D j b = (0, { D with rows := splice D.rows (j * 64) (padOf b), wrote := wrap64 (D.wrote + 1) }) := by unfold put; rw [hc]
    rw [e2] at ho ⊢
    have e : rput R j b = (0, { R with rows := R.rows.set j (padOf b), wrote := wrap64 (R.wrote + 1), after := R.after }) := by
      unfold rput; rw [if_neg (by omega), if_neg (by omega)]
    rw [e]
    refine ⟨rfl, ⟨set_rows h hj rfl (hpad _ rfl) (fun k hk => ho k hk), h.down, by show wrap64 _ = wrap64 _; rw [h.wrote], fun _ => ha, fun a k hk => ?_, h.byt, h.aft⟩⟩
    have : D.cut = some (a, k) := hk
    rw [hc] at this; cases this
  | some x =>
    obtain ⟨a, k⟩ := x
    obtain ⟨ha, hk, ha0⟩ := h.some_ a k hc
    by_cases h0 : a = 0
    · have e2 : put D j b = (101, { D with rows := splice D.rows (j * 64) ((padOf b).take k.toNat), down := true, cut := none }) := by
        unfold put; rw [hc]; show (if a = 0 then _ else _) = _; rw [if_pos h0]
      rw [e2] at ho ⊢
      have e : rput R j b = (101, { R with rows := R.rows.set j ((padOf b).take R.bytes.toNat ++ (R.rows.getD j []).drop R.bytes.toNat), down := true, after := -1 }) := by
        unfold rput; rw [if_pos (by omega)]
      rw [e]
      have hkb := h.byt
      rw [hk] at hkb
      have ht : ((padOf b).take k.toNat).length = k.toNat := by rw [List.length_take]; omega
      refine ⟨rfl, ⟨set_rows h hj rfl ?_ (fun k hk => ho k hk), rfl, h.wrote, fun _ => rfl, fun a k hk => (by cases hk), h.byt, ⟨by show (-1 : Int) ≤ -1; omega, by show (-1 : Int) ≤ 9223372036854775807; omega⟩⟩⟩
      have := secs_same D.rows ((padOf b).take k.toNat) j D.n hl hj (by rw [ht]; omega)
      rw [ht] at this
      rw [hk, h.at_ hj]
      exact this
    · have e2 : put D j b = (0, { D with rows := splice D.rows (j * 64) (padOf b), wrote := wrap64 (D.wrote + 1), cut := some (a - 1, k) }) := by
        unfold put; rw [hc]; show (if a = 0 then _ else _) = _; rw [if_neg h0]
      rw [e2] at ho ⊢
      have e : rput R j b = (0, { R with rows := R.rows.set j (padOf b), wrote := wrap64 (R.wrote + 1), after := R.after - 1 }) := by
        unfold rput; rw [if_neg (by omega), if_pos (by omega)]
      rw [e]
      refine ⟨rfl, ⟨set_rows h hj rfl (hpad _ rfl) (fun k hk => ho k hk), h.down, by show wrap64 _ = wrap64 _; rw [h.wrote], fun hk => (by cases hk), fun a' k' hk' => ?_, h.byt, ?_⟩⟩
      · injection hk' with hk'; injection hk' with e1 e2; subst e1; subst e2
        refine ⟨?_, hk, by omega⟩
        show R.after - 1 = a - 1; omega
      · have := h.aft
        exact ⟨by show (-1 : Int) ≤ R.after - 1; omega, by show R.after - 1 ≤ (9223372036854775807 : Int); omega⟩
/-- Both disks in one world. -/
structure Two (w : World) (B g r B2 q : Nat) (D : Dk) (R : Rk) : Prop where
  dk : IsDisk w B g r D
  rk : IsRk w B2 q R
  rel : Rel D R
end Go.Proofs.Ytacpeilgjaodbaa
