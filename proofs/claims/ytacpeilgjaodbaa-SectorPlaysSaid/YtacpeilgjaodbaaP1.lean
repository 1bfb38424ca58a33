/- What the disk's data do under writes: sector by sector. -/
import Derived.Test.YtacpeilgjaodbaaD8
namespace Go.Proofs.Ytacpeilgjaodbaa
open Go.RowKit
set_option linter.unusedVariables false
set_option linter.unusedSimpArgs false
theorem get_splice (L : List Int) (off : Nat) (cs : List Int) (h : off + cs.length ≤ L.length) (k : Nat) : (splice L off cs)[k]? = if k < off then L[k]? else if k < off + cs.length then cs[k - off]? else L[k]? := by
  unfold splice
  have hl : (L.take off).length = off := by rw [List.length_take]; omega
  by_cases h1 : k < off
  · rw [List.getElem?_append_left (by omega), if_pos h1, List.getElem?_take, if_pos h1]
  · rw [List.getElem?_append_right (by omega), if_neg h1, hl]
    by_cases h2 : k < off + cs.length
    · rw [List.getElem?_append_left (by omega), if_pos h2]
    · rw [List.getElem?_append_right (by omega), if_neg h2, List.getElem?_drop]
      congr 1; omega
def secs (l : List Int) (j : Nat) : List Int := (l.drop (j * 64)).take 64
theorem get_secs (l : List Int) (j k : Nat) : (secs l j)[k]? = if k < 64 then l[j * 64 + k]? else none := by
  unfold secs
  rw [List.getElem?_take]
  split
  · rw [List.getElem?_drop]
  · rfl
theorem secs_other (l v : List Int) (i j n : Nat) (hl : l.length = 64 * n) (hi : i < n) (hv : v.length ≤ 64) (hj : j ≠ i) : secs (splice l (i * 64) v) j = secs l j := by
  apply List.ext_getElem?
  intro k
  rw [get_secs, get_secs]
  split
  case isTrue hk =>
    rw [get_splice _ _ _ (by omega)]
    by_cases h1 : j < i
    · rw [if_pos (by omega)]
    · rw [if_neg (by omega), if_neg (by omega)]
  case isFalse => rfl
theorem secs_same (l v : List Int) (i n : Nat) (hl : l.length = 64 * n) (hi : i < n) (hv : v.length ≤ 64) : secs (splice l (i * 64) v) i = v ++ (secs l i).drop v.length := by
  apply List.ext_getElem?
  intro k
  rw [get_secs, List.getElem?_append, List.getElem?_drop, get_secs]
  by_cases hk : k < 64
  · rw [if_pos hk, get_splice _ _ _ (by omega), if_neg (by omega)]
    by_cases h2 : k < v.length
    · rw [if_pos (by omega), if_pos h2]; congr 1; omega
    · rw [if_neg (by omega), if_neg h2, if_pos (by omega)]; congr 1; omega
  · rw [if_neg hk, if_neg (by omega), if_neg (by omega)]
theorem secs_pad (l v : List Int) (i n : Nat) (hl : l.length = 64 * n) (hi : i < n) (hv : v.length = 64) : secs (splice l (i * 64) v) i = v := by
  rw [secs_same l v i n hl hi (by omega), hv, List.drop_eq_nil_of_le (by unfold secs; rw [List.length_take]; omega), List.append_nil]
theorem sect_secs (D : Dk) (j : Nat) : sect D j = secs D.rows j := rfl
theorem put_cases (D : Dk) (i : Nat) (b : List Int) (hb : b.length ≤ 64) : ∃ e v c m d, put D i b = (e, { D with rows := splice D.rows (i * 64) v, wrote := m, cut := c, down := d }) ∧ v.length ≤ 64 := by
  have hp := padOf_len (b := b) (by omega)
  unfold put
  split
  · exact ⟨_, padOf b, D.cut, _, D.down, rfl, by omega⟩
  · split
    · exact ⟨_, _, _, D.wrote, true, rfl, by rw [List.length_take]; omega⟩
    · exact ⟨_, padOf b, _, _, D.down, rfl, by omega⟩
/-- A write's whole work. -/
theorem write_other (D : Dk) (i : Int) (b : List Int) (hl : D.rows.length = 64 * D.n) : (writeOf D i b).2.n = D.n ∧ ∀ j : Nat, (j : Int) ≠ i → sect (writeOf D i b).2 j = sect D j := by
  unfold writeOf
  by_cases h1 : D.down = true
  · rw [if_pos h1]; exact ⟨rfl, fun _ _ => rfl⟩
  rw [if_neg h1]
  by_cases h2 : i < 0
  · rw [if_pos h2]; exact ⟨rfl, fun _ _ => rfl⟩
  rw [if_neg h2]
  by_cases h3 : (D.n : Int) ≤ i
  · rw [if_pos h3]; exact ⟨rfl, fun _ _ => rfl⟩
  rw [if_neg h3]
  by_cases h4 : 64 < b.length
  · rw [if_pos h4]; exact ⟨rfl, fun _ _ => rfl⟩
  rw [if_neg h4]
  obtain ⟨e, v, c, m, d, he, hv⟩ := put_cases D i.toNat b (by omega)
  rw [he]
  exact ⟨rfl, fun j hj => secs_other _ _ _ _ D.n hl (by omega) hv (by omega)⟩
/-- A write that is whole. -/
theorem write_fine (D : Dk) (i : Int) (b : List Int) (hl : D.rows.length = 64 * D.n) (h1 : D.down = false) (h2 : D.cut = none) (h3 : 0 ≤ i) (h4 : i < (D.n : Int)) (h5 : b.length ≤ 64) :
    ∃ D', writeOf D i b = (0, D') ∧ D'.n = D.n ∧ D'.down = false ∧ D'.cut = none ∧ D'.wrote = wrap64 (D.wrote + 1) ∧ sect D' i.toNat = padOf b ∧ ∀ j : Nat, (j : Int) ≠ i → sect D' j = sect D j := by
  have ho := write_other D i b hl
  have e : writeOf D i b = (0, { D with rows := splice D.rows (i.toNat * 64) (padOf b), wrote := wrap64 (D.wrote + 1) }) := by
    unfold writeOf
    rw [h1, if_neg (by decide), if_neg (by omega), if_neg (by omega), if_neg (by omega)]
    unfold put
    rw [h2, h1]
  rw [e] at ho ⊢
  exact ⟨_, rfl, rfl, h1, h2, rfl, secs_pad _ _ _ D.n hl (by omega) (padOf_len h5), ho.2⟩
/-- A write that is cut. -/
theorem write_torn (D : Dk) (i k : Int) (b : List Int) (hl : D.rows.length = 64 * D.n) (h1 : D.down = false) (h2 : D.cut = some (0, k)) (h3 : 0 ≤ i) (h4 : i < (D.n : Int)) (h5 : b.length ≤ 64) (hk : 0 ≤ k ∧ k ≤ 64) :
    ∃ D', writeOf D i b = (101, D') ∧ D'.n = D.n ∧ D'.down = true ∧ D'.cut = none ∧ D'.wrote = D.wrote ∧ sect D' i.toNat = (padOf b).take k.toNat ++ (sect D i.toNat).drop k.toNat ∧ ∀ j : Nat, (j : Int) ≠ i → sect D' j = sect D j := by
  have ho := write_other D i b hl
  have e : writeOf D i b = (101, { D with rows := splice D.rows (i.toNat * 64) ((padOf b).take k.toNat), down := true, cut := none }) := by
    unfold writeOf
    rw [h1, if_neg (by decide), if_neg (by omega), if_neg (by omega), if_neg (by omega)]
    unfold put
    rw [h2]
    show (if (0 : Int) = 0 then _ else _) = _
    rw [if_pos rfl]
  rw [e] at ho ⊢
  have hp := padOf_len h5
  have ht : ((padOf b).take k.toNat).length = k.toNat := by rw [List.length_take]; omega
  refine ⟨_, rfl, rfl, rfl, rfl, rfl, ?_, ho.2⟩
  have := secs_same D.rows ((padOf b).take k.toNat) i.toNat D.n hl (by omega) (by omega)
  rw [ht] at this
  exact this
theorem get_pad (b : List Int) (h : b.length ≤ 64) (k : Nat) (hk : k < 64) : (padOf b)[k]? = some (if k < b.length then b.getD k 0 else 0) := by
  unfold padOf
  rw [get_splice _ _ _ (by rw [List.length_replicate]; omega), if_neg (by omega)]
  by_cases h2 : k < b.length
  · rw [if_pos (by omega), if_pos h2, List.getD_eq_getElem?_getD, Nat.sub_zero]
    rw [List.getElem?_eq_getElem h2]; rfl
  · rw [if_neg (by omega), if_neg h2, List.getElem?_replicate, if_pos hk]
theorem take_pad (b : List Int) (h : b.length ≤ 64) : (padOf b).take b.length = b := by
  unfold padOf splice
  simp
/-- What stands in a torn sector. -/
theorem torn_at (was now : List Int) (n : Int) (hn : 0 ≤ n) (h1 : was.length ≤ 64) (h2 : now.length ≤ 64) (i : Nat) (hi : i < 64) :
    ((padOf now).take (clamp n).toNat ++ (padOf was).drop (clamp n).toNat)[i]? = some (if (i : Int) < n then (if i < now.length then now.getD i 0 else 0) else if i < was.length then was.getD i 0 else 0) := by
  have hp := padOf_len h2
  obtain ⟨k, hk⟩ : ∃ k, (clamp n).toNat = k := ⟨_, rfl⟩
  have hk2 : k = (min n 64).toNat := by rw [← hk]; unfold clamp; omega
  rw [hk]
  have ht : ((padOf now).take k).length = k := by rw [List.length_take]; omega
  by_cases h : (i : Int) < n
  · rw [List.getElem?_append_left (by omega), List.getElem?_take, if_pos (by omega), get_pad now h2 i hi, if_pos h]
  · rw [List.getElem?_append_right (by omega), ht, List.getElem?_drop, show k + (i - k) = i by omega, get_pad was h1 i hi, if_neg h]
theorem readOf_up (D : Dk) (i : Nat) (h : D.down = false) (hi : i < D.n) : readOf D (i : Int) = (sect D i, 0) := by
  unfold readOf
  rw [h, if_neg (by decide), if_neg (by omega), if_neg (by omega), Int.toNat_natCast]
end Go.Proofs.Ytacpeilgjaodbaa
