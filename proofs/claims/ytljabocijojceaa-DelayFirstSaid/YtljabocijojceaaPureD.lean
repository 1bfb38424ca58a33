/- The plain law DelayFirst. -/
import Derived.Test.YtljabocijojceaaPureC
namespace Go.Proofs.Ytljabocijojceaa.Pure
open Go.RowKit Go.Proofs.Ytljabocijojceaa.QA Go.Proofs.YtljabocijojceaaW.PrintWords Go.Proofs.YtljabocijojceaaW.PrintLast

theorem rd_mem {l : List Int} {i : Int} (h0 : 0 ≤ i) (h : i < (l.length : Int)) : rd l i ∈ l := by
  unfold rd
  rw [List.getD_eq_getElem?_getD, List.getElem?_eq_getElem (by omega)]
  exact List.getElem_mem _

/-- The second row of times: the value counts as true; it has seen false since 'fr', or counts as false. -/
theorem first_l1 (a1 n1 : Int) (l : List Int) (hl : ∀ x ∈ l, 0 ≤ x ∧ x ≤ 255) (hn : l.length ≤ 300) (h1 : 0 ≤ a1 ∧ a1 ≤ 255) (hn1 : 0 ≤ n1) (d : Nat) :
    ∀ (k : Nat) (t fr i : Int) (v : Bool) (s : Int), (v = true → s = fr ∧ t - fr < a1) → (v = false → s = -1 ∧ a1 ≤ t - fr) → 0 ≤ fr → fr ≤ t → t ≤ 100000 + 255 * i → 0 ≤ i → i ≤ l.length → (l.length : Int) - i = d → d < k →
      watchkeeperlaw12_DelayFirst.l1 k a1 l true t fr i a1 n1 v s t = some true := by
  induction d with
  | zero =>
    intro k t fr i v s hv hv' hf0 hf1 ht h0 hi hd hk
    obtain ⟨k, rfl⟩ : ∃ q, k = q + 1 := ⟨k - 1, by omega⟩
    simp only [watchkeeperlaw12_DelayFirst.l1]
    rw [if_neg (by omega)]
  | succ d ih =>
    intro k t fr i v s hv hv' hf0 hf1 ht h0 hi hd hk
    obtain ⟨k, rfl⟩ : ∃ q, k = q + 1 := ⟨k - 1, by omega⟩
    have hlt : i < (l.length : Int) := by omega
    have hx := hl _ (rd_mem h0 hlt)
    simp only [watchkeeperlaw12_DelayFirst.l1]
    rw [if_pos hlt, if_pos h0]
    generalize rd l i = x at hx
    simp only [wrap_id (n := x) (by omega), wrap_id (n := t + x) (by omega), wrap_id (n := t + x - fr) (by omega), wrap_id (n := a1) (by omega), wrap_id (n := i + 1) (by omega)]
    cases v with
    | false =>
      obtain ⟨rfl, hge⟩ := hv' rfl
      rw [see_at a1 n1 false (-1) t false (t + x) (by omega) (by omega) (seeS a1 n1 false (-1) t (t + x) (by omega))]
      simp only [Option.bind_some]
      rw [if_neg (by simp; omega)]
      exact ih k (t + x) fr (i + 1) false (-1) (fun h => by cases h) (fun _ => ⟨rfl, by omega⟩) hf0 (by omega) (by omega) (by omega) (by omega) (by omega) (by omega)
    | true =>
      obtain ⟨rfl, hlt2⟩ := hv rfl
      by_cases hge : a1 ≤ t + x - s
      · rw [see_at a1 n1 true s t false (t + x) (by omega) (by omega) ((seeR a1 n1 true s t (t + x) (by omega) (by omega)).trans (if_pos (by simpa using hge)))]
        simp only [Option.bind_some]
        rw [if_neg (by simp; omega)]
        exact ih k (t + x) s (i + 1) false (-1) (fun h => by cases h) (fun _ => ⟨rfl, by omega⟩) hf0 (by omega) (by omega) (by omega) (by omega) (by omega) (by omega)
      · rw [see_at a1 n1 true s t false (t + x) (by omega) (by omega) ((seeR a1 n1 true s t (t + x) (by omega) (by omega)).trans (if_neg (by simpa using hge)))]
        simp only [Option.bind_some]
        rw [if_neg (by simp; omega)]
        exact ih k (t + x) s (i + 1) true s (fun _ => ⟨rfl, by omega⟩) (fun h => by cases h) hf0 (by omega) (by omega) (by omega) (by omega) (by omega) (by omega)

theorem first_l0 (a0 a1 : Int) (l m : List Int) (hl : ∀ x ∈ l, 0 ≤ x ∧ x ≤ 255) (hn : l.length ≤ 300) (hm : ∀ x ∈ m, 0 ≤ x ∧ x ≤ 255) (hmn : m.length ≤ 300) (h0' : 0 ≤ a0 ∧ a0 ≤ 255) (h1 : 0 ≤ a1 ∧ a1 ≤ 255) (d : Nat) :
    ∀ (k : Nat) (t i : Int) (v : Bool) (s : Int), (v = false → s = 3 ∧ t - 3 < a0) → (v = true → s = -1 ∧ a0 ≤ t - 3) → 3 ≤ t → t ≤ 3 + 255 * i → 0 ≤ i → i ≤ l.length → (l.length : Int) - i = d → d + m.length + 1 < k →
      watchkeeperlaw12_DelayFirst.l0 k a0 a1 l m true t 3 i a1 a0 v s t = some true := by
  induction d with
  | zero =>
    intro k t i v s hv hv' hf1 ht h0 hi hd hk
    obtain ⟨k, rfl⟩ : ∃ q, k = q + 1 := ⟨k - 1, by omega⟩
    simp only [watchkeeperlaw12_DelayFirst.l0]
    rw [if_neg (by omega)]
    simp only [delay_Delay_Value.f, Option.bind_some, wrap_id (n := t - 3) (by omega), wrap_id (n := a0) (by omega)]
    cases v with
    | false =>
      obtain ⟨rfl, hlt⟩ := hv rfl
      simp [hlt]
    | true =>
      obtain ⟨rfl, hge⟩ := hv' rfl
      rw [if_pos rfl]
      by_cases hz : a1 ≤ 0
      · rw [see_at a1 a0 true (-1) t false t (by omega) (by omega) ((seeN a1 a0 true (-1) t t (by omega) (by omega)).trans (if_pos (by simpa using hz)))]
        simp only [Option.bind_some]
        have hz' : a1 = 0 := by omega
        rw [if_neg (by simp [hz'])]
        exact first_l1 a1 a0 m hm hmn h1 (by omega) m.length k t t 0 false (-1) (fun h => by cases h) (fun _ => ⟨rfl, by omega⟩) (by omega) (by omega) (by omega) (by omega) (by omega) (by omega) (by omega)
      · rw [see_at a1 a0 true (-1) t false t (by omega) (by omega) ((seeN a1 a0 true (-1) t t (by omega) (by omega)).trans (if_neg (by simpa using hz)))]
        simp only [Option.bind_some]
        rw [if_neg (by simp; omega)]
        exact first_l1 a1 a0 m hm hmn h1 (by omega) m.length k t t 0 true t (fun _ => ⟨rfl, by omega⟩) (fun h => by cases h) (by omega) (by omega) (by omega) (by omega) (by omega) (by omega) (by omega)
  | succ d ih =>
    intro k t i v s hv hv' hf1 ht h0 hi hd hk
    obtain ⟨k, rfl⟩ : ∃ q, k = q + 1 := ⟨k - 1, by omega⟩
    have hlt : i < (l.length : Int) := by omega
    have hx := hl _ (rd_mem h0 hlt)
    simp only [watchkeeperlaw12_DelayFirst.l0]
    rw [if_pos hlt, if_pos h0]
    generalize rd l i = x at hx
    simp only [wrap_id (n := x) (by omega), wrap_id (n := t + x) (by omega), wrap_id (n := t + x - 3) (by omega), wrap_id (n := a0) (by omega), wrap_id (n := i + 1) (by omega)]
    cases v with
    | true =>
      obtain ⟨rfl, hge⟩ := hv' rfl
      rw [see_at a1 a0 true (-1) t true (t + x) (by omega) (by omega) (seeS a1 a0 true (-1) t (t + x) (by omega))]
      simp only [Option.bind_some]
      rw [if_neg (by simp; omega)]
      exact ih k (t + x) (i + 1) true (-1) (fun h => by cases h) (fun _ => ⟨rfl, by omega⟩) (by omega) (by omega) (by omega) (by omega) (by omega) (by omega)
    | false =>
      obtain ⟨rfl, hlt2⟩ := hv rfl
      by_cases hge : a0 ≤ t + x - 3
      · rw [see_at a1 a0 false 3 t true (t + x) (by omega) (by omega) ((seeR a1 a0 false 3 t (t + x) (by omega) (by omega)).trans (if_pos (by simpa using hge)))]
        simp only [Option.bind_some]
        rw [if_neg (by simp; omega)]
        exact ih k (t + x) (i + 1) true (-1) (fun h => by cases h) (fun _ => ⟨rfl, by omega⟩) (by omega) (by omega) (by omega) (by omega) (by omega) (by omega)
      · rw [see_at a1 a0 false 3 t true (t + x) (by omega) (by omega) ((seeR a1 a0 false 3 t (t + x) (by omega) (by omega)).trans (if_neg (by simpa using hge)))]
        simp only [Option.bind_some]
        rw [if_neg (by simp; omega)]
        exact ih k (t + x) (i + 1) false 3 (fun _ => ⟨rfl, by omega⟩) (fun h => by cases h) (by omega) (by omega) (by omega) (by omega) (by omega) (by omega)

theorem DelayFirst (a0 a1 : Int) (l2 l3 : List Int) (w0 : (Lit.int .u8 a0).wf = true) (w1 : (Lit.int .u8 a1).wf = true) (w2 : l2.length ≤ maxLen ∧ ∀ x0 ∈ l2, (Lit.int .u8 x0).wf = true) (w3 : l3.length ≤ maxLen ∧ ∀ x0 ∈ l3, (Lit.int .u8 x0).wf = true) :
    ∃ k, watchkeeperlaw12_DelayFirst.f k a0 a1 l2 l3 = some true := by
  have h0 := wf8 w0
  have h1 := wf8 w1
  refine ⟨l2.length + l3.length + 3, ?_⟩
  unfold watchkeeperlaw12_DelayFirst.f
  rw [head_true]
  have c1 : clampT a1 = a1 := by unfold clampT; omega
  have c0 : clampT a0 = a0 := by unfold clampT; omega
  simp only [Option.bind_some, delay_New.f, wrap_id (n := a0) (by omega), wrap_id (n := a1) (by omega), c0, c1]
  by_cases hl2 : (l2.length : Int) > 300
  · rw [if_pos hl2]
    simp [watchkeeperlaw12_DelayFirst.j0]
  · rw [if_neg hl2]
    by_cases hl3 : (l3.length : Int) > 300
    · simp [watchkeeperlaw12_DelayFirst.j0, hl3]
    · simp only [watchkeeperlaw12_DelayFirst.j0]
      rw [if_neg (by simpa using hl3)]
      by_cases hz : a0 ≤ 0
      · rw [see_at a1 a0 false (-1) 0 true 3 (by omega) (by omega) ((seeN a1 a0 false (-1) 0 3 (by omega) (by omega)).trans (if_pos (by simpa using hz)))]
        simp only [Option.bind_some]
        have hz' : a0 = 0 := by omega
        rw [if_neg (by simp [hz'])]
        exact first_l0 a0 a1 l2 l3 (fun x hx => wf8 (w2.2 x hx)) (by omega) (fun x hx => wf8 (w3.2 x hx)) (by omega) h0 h1 l2.length _ 3 0 true (-1) (fun h => by cases h) (fun _ => ⟨rfl, by omega⟩) (by omega) (by omega) (by omega) (by omega) (by omega) (by omega)
      · rw [see_at a1 a0 false (-1) 0 true 3 (by omega) (by omega) ((seeN a1 a0 false (-1) 0 3 (by omega) (by omega)).trans (if_neg (by simpa using hz)))]
        simp only [Option.bind_some]
        rw [if_neg (by simp; omega)]
        exact first_l0 a0 a1 l2 l3 (fun x hx => wf8 (w2.2 x hx)) (by omega) (fun x hx => wf8 (w3.2 x hx)) (by omega) h0 h1 l2.length _ 3 0 false 3 (fun _ => ⟨rfl, by omega⟩) (fun h => by cases h) (by omega) (by omega) (by omega) (by omega) (by omega) (by omega)
end Go.Proofs.Ytljabocijojceaa.Pure
