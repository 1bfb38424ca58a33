/- What is read as data of a type, as a value of one of the printer's kinds: numbers, bools, strings, slices, structs of these. -/
import Derived.Test.YtacpeilgjaodbaaChecked
import Derived.Test.YtacpeilgjaodbaaWWords
import Derived.Test.YtacpeilgjaodbaaWLast
import Derived.Deep.Slices
import Derived.ChangeArms
import Derived.WideShapes
namespace Go.Proofs.Ytacpeilgjaodbaa.Opn
open Go.RowKit Go.Proofs.YtacpeilgjaodbaaW.PrintWords Go.Proofs.YtacpeilgjaodbaaW.PrintLast

/-- Cells that read as data of type t are a value of the kind d, of which V holds. -/
def Opens (P : Program) {α : Type} (d : Kd α) (t : TypeId) (V : α → Prop) : Prop :=
  ∀ (H : Type) (enc : TypeId × Value → H) (w : World) (base : Nat) (spare : Nat → Bool) (held : Bool) (fuel : Nat) (cs : List Value) (x : DataW H × List MemPlace),
    DataW.trod enc P w base spare held fuel t cs = some x → ∃ v, d.K w v cs ∧ V v

section
variable {P : Program}
theorem opens_int {t : TypeId} {k : IntKind} (ht : P.underlying t = some (.int k)) : Opens P (Kd.int k) t (fun n => (Lit.int k n).wf = true) := by
  intro H enc w base spare held fuel cs x h
  obtain ⟨n, rfl, _, hw⟩ := DataW.trod_int ht h
  exact ⟨n, rfl, hw⟩
theorem opens_bool {t : TypeId} (ht : P.underlying t = some .bool) : Opens P Kd.bool t (fun _ => True) := by
  intro H enc w base spare held fuel cs x h
  obtain ⟨n, rfl, _⟩ := DataW.trod_bool ht h
  exact ⟨n, rfl, trivial⟩
theorem opens_string {t : TypeId} (ht : P.underlying t = some .string) : Opens P Kd.string t (fun s => s.size ≤ maxLen) := by
  intro H enc w base spare held fuel cs x h
  obtain ⟨s, rfl, _, hs⟩ := DataW.trod_string ht h
  exact ⟨s, rfl, hs⟩
theorem opens_imp {α : Type} {d : Kd α} {t : TypeId} {V V' : α → Prop} (h : Opens P d t V) (hV : ∀ v, V v → V' v) : Opens P d t V' := by
  intro H enc w base spare held fuel cs x hx
  obtain ⟨v, hk, hv⟩ := h H enc w base spare held fuel cs x hx
  exact ⟨v, hk, hV v hv⟩

theorem pick {α : Type} (R : Nat → α → Prop) : ∀ n : Nat, (∀ i, i < n → ∃ v, R i v) → ∃ xs : List α, xs.length = n ∧ ∀ i p, xs[i]? = some p → R i p
  | 0, _ => ⟨[], rfl, fun i p h => by simp at h⟩
  | n + 1, h => by
    obtain ⟨xs, hl, hx⟩ := pick R n (fun i hi => h i (by omega))
    obtain ⟨v, hv⟩ := h n (by omega)
    refine ⟨xs ++ [v], by simp [hl], fun i p hp => ?_⟩
    by_cases hi : i < xs.length
    · rw [List.getElem?_append_left hi] at hp; exact hx i p hp
    · rw [List.getElem?_append_right (by omega)] at hp
      by_cases h0 : i - xs.length = 0
      · rw [h0] at hp; simp at hp; subst hp
        have : i = n := by omega
        subst this; exact hv
      · rw [List.getElem?_eq_none (by simp; omega)] at hp; cases hp

theorem opens_slice {α : Type} {d : Kd α} {t e : TypeId} {V : α → Prop} (ht : P.underlying t = some (.slice e)) (hd : Opens P d e V) (hc : P.cellsOf e = d.sz) :
    Opens P (Kd.slice e d) t (fun xs => xs.length ≤ maxLen ∧ ∀ x ∈ xs, V x) := by
  intro H enc w base spare held fuel cs x h
  rcases Go.Deep.open_slice ht h with ⟨rfl, _⟩ | ⟨a, len, cap, m, n, D, Pl, rfl, _, hl, hm, hmm, _, hi⟩
  · exact ⟨[], ⟨none, 0, rfl, by simp, Kd.C_nil _ _⟩, by simp [maxLen], by simp⟩
  · have hlm : len ≤ m := by rw [hmm]; split <;> omega
    obtain ⟨xs, hxl, hx⟩ := pick (fun i (v : α) => ∃ cs', w.cells? base (a.add (i * P.cellsOf e)) (P.cellsOf e) = some cs' ∧ d.K w v cs' ∧ V v) len (fun i hil => by
      obtain ⟨cs', h1, h2⟩ := hi i (by omega)
      obtain ⟨v, hk, hvv⟩ := hd H enc w base spare held n cs' _ h2
      exact ⟨v, cs', h1, hk, hvv⟩)
    subst hxl
    refine ⟨xs, ⟨some a, cap, rfl, hl, rfl, by unfold maxLen at hm; omega, fun hn => ⟨a, rfl, fun j p hp => ?_⟩⟩, by omega, fun p hp => ?_⟩
    · obtain ⟨cs', h1, hk, _⟩ := hx j p hp
      obtain ⟨_, hcl, hcc⟩ := World.cells?_some h1
      refine ⟨cs', by rw [hcl, hc], hk, fun i u hu => ?_⟩
      have hil : i < cs'.length := (List.getElem?_eq_some_iff.1 hu).1
      have := hcc i (by omega)
      rw [Go.Deep.add_add, hc] at this
      rw [this, hu]
    · obtain ⟨j, hj, rfl⟩ := List.getElem_of_mem hp
      obtain ⟨_, _, _, hv⟩ := hx j _ (List.getElem?_eq_getElem hj)
      exact hv

/-- The fields of a struct from cell 'off' on, 'len' cells: a value of the kind d. -/
def OpensF (P : Program) {α : Type} (d : Kd α) (fs : List Field) (off len : Nat) (V : α → Prop) : Prop :=
  ∀ (H : Type) (enc : TypeId × Value → H) (w : World) (base : Nat) (spare : Nat → Bool) (held : Bool) (n : Nat) (cs : List Value), cs.length = off + len →
    (∀ f ∈ fs, ∃ x, DataW.trod enc P w base spare held n f.type ((cs.drop f.offset).take (P.cellsOf f.type)) = some x) → ∃ v, d.K w v (cs.drop off) ∧ V v
theorem opensF_one {α : Type} {d : Kd α} {f : Field} {off len : Nat} {V : α → Prop} (h : Opens P d f.type V) (ho : f.offset = off) (hl : P.cellsOf f.type = len) : OpensF P d [f] off len V := by
  intro H enc w base spare held n cs hlen hf
  obtain ⟨x, hx⟩ := hf f (by simp)
  rw [ho, hl, List.take_of_length_le (by simp; omega)] at hx
  exact h H enc w base spare held n _ x hx
theorem opensF_cons {α β : Type} {d : Kd α} {d' : Kd β} {f : Field} {fs : List Field} {off a len : Nat} {V : α → Prop} {V' : β → Prop} (h : Opens P d f.type V) (ho : f.offset = off) (ha : P.cellsOf f.type = a)
    (hr : OpensF P d' fs (off + a) len V') : OpensF P (Kd.pair d d') (f :: fs) off (a + len) (fun v => V v.1 ∧ V' v.2) := by
  intro H enc w base spare held n cs hlen hf
  obtain ⟨x, hx⟩ := hf f (by simp)
  rw [ho, ha] at hx
  obtain ⟨v, hk, hv⟩ := h H enc w base spare held n _ x hx
  obtain ⟨v', hk', hv'⟩ := hr H enc w base spare held n cs (by omega) (fun g hg => hf g (by simp [hg]))
  refine ⟨(v, v'), ⟨_, _, ?_, hk, hk'⟩, hv, hv'⟩
  rw [← List.drop_drop, List.take_append_drop]
theorem opens_struct {α β : Type} {d : Kd α} {t : TypeId} {fs : Array Field} {len : Nat} {V : α → Prop} (g : β → α) (inv : α → β) (hg : ∀ v, g (inv v) = v) (ht : P.underlying t = some (.struct fs)) (hC : P.cellsOf t = len)
    (h : OpensF P d fs.toList 0 len V) : Opens P (Kd.iso d g) t (fun b => V (g b)) := by
  intro H enc w base spare held fuel cs x hx
  obtain ⟨xs, n, rfl, _, hl, hxl, hf⟩ := DataW.trod_struct ht hx
  obtain ⟨v, hk, hv⟩ := h H enc w base spare held n cs (by omega) (fun f hm => by
    obtain ⟨i, hi, rfl⟩ := List.getElem_of_mem hm
    have hi' : i < fs.size := by simpa using hi
    have := hf i fs[i] (Array.getElem?_eq_getElem hi')
    simp only [Array.getElem_toList]
    rw [this]
    exact ⟨xs[i]'(by omega), List.getElem?_eq_getElem (by omega)⟩)
  refine ⟨inv v, ?_, ?_⟩
  · show d.K w (g (inv v)) cs
    rw [hg]; simpa using hk
  · show V (g (inv v)); rw [hg]; exact hv
end
end Go.Proofs.Ytacpeilgjaodbaa.Opn
