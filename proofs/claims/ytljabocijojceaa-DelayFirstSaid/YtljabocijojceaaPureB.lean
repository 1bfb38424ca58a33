/- The plain laws of the delay layer: DelayPlays. -/
import Derived.Test.YtljabocijojceaaQA3
namespace Go.Proofs.Ytljabocijojceaa.Pure
open Go.RowKit Go.Proofs.Ytljabocijojceaa.QA Go.Proofs.YtljabocijojceaaW.PrintWords Go.Proofs.YtljabocijojceaaW.PrintLast

theorem head_true : watchkeeperlaw12_head.f = some true := by decide +kernel

theorem see_some (n0 n1 : Int) (v : Bool) (s now : Int) (a : Bool) (t : Int) (h : (0 ≤ n0 ∧ 0 ≤ n1 ∧ -1 ≤ s ∧ s ≤ now ∧ 0 ≤ now ∧ now ≤ 1099511627776)) (ht : -9223372036854775808 ≤ t ∧ t ≤ 9223372036854775807) :
    delay_Delay_See.f n0 n1 v s now a t = some ((St.see ⟨n0, n1, v, s, now⟩ a t).v, n0, n1, (St.see ⟨n0, n1, v, s, now⟩ a t).v, (St.see ⟨n0, n1, v, s, now⟩ a t).s, min (max t now) 1099511627776) := by
  unfold delay_Delay_See.f
  rw [if_pos ⟨h, ht⟩]
  simp only [St.see]
  by_cases h1 : a = v
  · simp [h1]
  · by_cases h2 : (if a = true then n1 else n0) ≤ min (max t now) 1099511627776 - (if s < 0 then min (max t now) 1099511627776 else s)
    · simp [h1, h2]
    · simp [h1, h2]

theorem see_ok (n0 n1 : Int) (v : Bool) (s now : Int) (a : Bool) (t : Int) (h : (0 ≤ n0 ∧ 0 ≤ n1 ∧ -1 ≤ s ∧ s ≤ now ∧ 0 ≤ now ∧ now ≤ 1099511627776)) :
    -1 ≤ (St.see ⟨n0, n1, v, s, now⟩ a t).s ∧ (St.see ⟨n0, n1, v, s, now⟩ a t).s ≤ min (max t now) 1099511627776 := by
  have hm : 0 ≤ min (max t now) 1099511627776 := by omega
  have hs2 : (if s < 0 then min (max t now) 1099511627776 else s) ≤ min (max t now) 1099511627776 := by split <;> omega
  have hs1 : -1 ≤ (if s < 0 then min (max t now) 1099511627776 else s) := by split <;> omega
  unfold St.see
  by_cases h1 : a = v
  · rw [if_pos h1]; exact ⟨by simp, by simp; omega⟩
  · rw [if_neg h1]
    simp only []
    by_cases h2 : (if a = true then n1 else n0) ≤ min (max t now) 1099511627776 - (if s < 0 then min (max t now) 1099511627776 else s)
    · rw [if_pos h2]; exact ⟨by simp, by simp; omega⟩
    · rw [if_neg h2]; exact ⟨hs1, hs2⟩

theorem mn_mx (a b : Int) : mn a b = min a b ∧ mx a b = max a b := by constructor <;> (first | (unfold mn; omega) | (unfold mx; omega))

/-- The document's See, at a state that tells the same. -/
theorem rsee_some (k : Nat) (hk : 0 < k) (n0 n1 : Int) (v : Bool) (s now fr : Int) (a : Bool) (t : Int) (h : (0 ≤ n0 ∧ 0 ≤ n1 ∧ -1 ≤ s ∧ s ≤ now ∧ 0 ≤ now ∧ now ≤ 1099511627776)) (hf : 0 ≤ s → fr = s) :
    ∃ fr', watchkeeperref12_Delay_See.f k n1 n0 v (decide (s ≥ 0)) fr now a t = some ((St.see ⟨n0, n1, v, s, now⟩ a t).v, n1, n0, (St.see ⟨n0, n1, v, s, now⟩ a t).v, decide ((St.see ⟨n0, n1, v, s, now⟩ a t).s ≥ 0), fr', min (max t now) 1099511627776) ∧
      (0 ≤ (St.see ⟨n0, n1, v, s, now⟩ a t).s → fr' = (St.see ⟨n0, n1, v, s, now⟩ a t).s) := by
  obtain ⟨k, rfl⟩ : ∃ m, k = m + 1 := ⟨k - 1, by omega⟩
  have hc : watchkeeperref12_clamp.f t now = some (min (max t now) 1099511627776) := by
    unfold watchkeeperref12_clamp.f
    rw [(mn_mx _ _).1, (mn_mx _ _).2]
  have hw : ∀ x : Int, 0 ≤ x → x ≤ min (max t now) 1099511627776 → wrap64 (min (max t now) 1099511627776 - x) = min (max t now) 1099511627776 - x := fun x h0 h1 => by unfold wrap64; omega
  unfold watchkeeperref12_Delay_See.f
  rw [hc]
  simp only [Option.bind_some, watchkeeperref12_Delay_See.j0, St.see]
  by_cases h1 : a = v
  · subst h1
    exact ⟨fr, by simp, by simp⟩
  · have h1' : ¬ ((a == v) = true) := by simpa using h1
    rw [if_neg h1']
    by_cases hs : 0 ≤ s
    · have hs' : ¬ s < 0 := by omega
      rw [if_pos (by simpa using hs)]
      rw [hf hs, hw s hs (by omega)]
      cases a with
      | true =>
        by_cases h2 : n1 ≤ min (max t now) 1099511627776 - s
        · exact ⟨s, by simp [h1, h2, hs'], by simp [h1, h2, hs']⟩
        · exact ⟨s, by simp [h1, h2, hs'], by simp [h1, h2, hs']⟩
      | false =>
        by_cases h2 : n0 ≤ min (max t now) 1099511627776 - s
        · exact ⟨s, by simp [h1, h2, hs'], by simp [h1, h2, hs']⟩
        · exact ⟨s, by simp [h1, h2, hs'], by simp [h1, h2, hs']⟩
    · have hs' : s < 0 := by omega
      rw [if_neg (by simpa using hs)]
      rw [hw _ (by omega) (by omega)]
      have hm : 0 ≤ min (max t now) 1099511627776 := by omega
      cases a with
      | true =>
        by_cases h2 : n1 ≤ 0
        · exact ⟨min (max t now) 1099511627776, by simp [h1, h2, hs'], by simp [h1, h2, hs']⟩
        · exact ⟨min (max t now) 1099511627776, by simp [h1, h2, hs', hm], by simp [h1, h2, hs']⟩
      | false =>
        by_cases h2 : n0 ≤ 0
        · exact ⟨min (max t now) 1099511627776, by simp [h1, h2, hs'], by simp [h1, h2, hs']⟩
        · exact ⟨min (max t now) 1099511627776, by simp [h1, h2, hs', hm], by simp [h1, h2, hs']⟩

theorem wf64 {n : Int} (h : (Lit.int .i64 n).wf = true) : -9223372036854775808 ≤ n ∧ n ≤ 9223372036854775807 := by
  simpa [Lit.wf, IntKind.min, IntKind.max, IntKind.signed, IntKind.bits] using h

theorem plays_loop (l : List S30) (hl : ∀ x ∈ l, -9223372036854775808 ≤ x.f1 ∧ x.f1 ≤ 9223372036854775807) (hn : l.length ≤ 500) (d : Nat) :
    ∀ (k : Nat) (i n0 n1 : Int) (v : Bool) (s now fr : Int), (0 ≤ n0 ∧ 0 ≤ n1 ∧ -1 ≤ s ∧ s ≤ now ∧ 0 ≤ now ∧ now ≤ 1099511627776) → (0 ≤ s → fr = s) → 0 ≤ i → i ≤ l.length → (l.length : Int) - i = d → d + 1 < k →
      watchkeeperlaw12_DelayPlays.l0 k l true i n0 n1 v s now n1 n0 v (decide (s ≥ 0)) fr now = some true := by
  induction d with
  | zero =>
    intro k i n0 n1 v s now fr hok hf h0 h1 hd hk
    obtain ⟨k, rfl⟩ : ∃ m, k = m + 1 := ⟨k - 1, by omega⟩
    simp only [watchkeeperlaw12_DelayPlays.l0]
    rw [if_neg (by omega)]
  | succ d ih =>
    intro k i n0 n1 v s now fr hok hf h0 h1 hd hk
    obtain ⟨k, rfl⟩ : ∃ m, k = m + 1 := ⟨k - 1, by omega⟩
    have hlt : i < (l.length : Int) := by omega
    have hx : rd_T30 l i ∈ l := by
      unfold rd_T30
      rw [List.getD_eq_getElem?_getD, List.getElem?_eq_getElem (by omega)]
      exact List.getElem_mem _
    have ht := hl _ hx
    obtain ⟨fr', hr, hf'⟩ := rsee_some k (by omega) n0 n1 v s now fr (rd_T30 l i).f0 (rd_T30 l i).f1 hok hf
    have ho := see_ok n0 n1 v s now (rd_T30 l i).f0 (rd_T30 l i).f1 hok
    simp only [watchkeeperlaw12_DelayPlays.l0]
    rw [if_pos hlt, if_pos h0, see_some _ _ _ _ _ _ _ hok ht, hr]
    simp only [Option.bind_some, delay_Delay_Since.f, watchkeeperref12_Delay_Since.f, delay_Delay_Value.f, watchkeeperref12_Delay_Value.f]
    have hi : wrap64 (i + 1) = i + 1 := by unfold wrap64; omega
    rw [hi]
    have hnext := ih k (i + 1) n0 n1 (St.see ⟨n0, n1, v, s, now⟩ (rd_T30 l i).f0 (rd_T30 l i).f1).v (St.see ⟨n0, n1, v, s, now⟩ (rd_T30 l i).f0 (rd_T30 l i).f1).s (min (max (rd_T30 l i).f1 now) 1099511627776) fr'
      (by omega) hf' (by omega) (by omega) (by omega) (by omega)
    by_cases hs : (St.see ⟨n0, n1, v, s, now⟩ (rd_T30 l i).f0 (rd_T30 l i).f1).s ≥ 0
    · have e := hf' hs
      have hm : mx (St.see ⟨n0, n1, v, s, now⟩ (rd_T30 l i).f0 (rd_T30 l i).f1).s 0 = (St.see ⟨n0, n1, v, s, now⟩ (rd_T30 l i).f0 (rd_T30 l i).f1).s := by rw [(mn_mx _ _).2]; omega
      rw [hm]
      simpa [hs, e] using hnext
    · have hm : mx (St.see ⟨n0, n1, v, s, now⟩ (rd_T30 l i).f0 (rd_T30 l i).f1).s 0 = 0 := by rw [(mn_mx _ _).2]; omega
      rw [hm]
      simpa [hs] using hnext

theorem clampT_ok (n : Int) : 0 ≤ clampT n := by unfold clampT; omega

theorem DelayPlays (a0 a1 : Int) (l : List S30) (_h0 : (Lit.int .i64 a0).wf = true) (_h1 : (Lit.int .i64 a1).wf = true)
    (hl : l.length ≤ maxLen ∧ ∀ x0 ∈ l, (True) ∧ ((Lit.int .i64 x0.f1).wf = true)) : ∃ k, watchkeeperlaw12_DelayPlays.f k a0 a1 l = some true := by
  refine ⟨l.length + 2, ?_⟩
  unfold watchkeeperlaw12_DelayPlays.f
  rw [head_true]
  simp only [Option.bind_some, delay_New.f, watchkeeperref12_New.f]
  by_cases hg : (l.length : Int) > 500
  · rw [if_pos hg]
  · rw [if_neg hg]
    have := plays_loop l (fun x hx => wf64 (hl.2 x hx).2) (by omega) l.length (l.length + 2) 0 (clampT a1) (clampT a0) false (-1) 0 0 ⟨clampT_ok _, clampT_ok _, by omega, by omega, by omega, by omega⟩ (fun h => by omega) (by omega) (by omega) (by omega) (by omega)
    simpa using this
end Go.Proofs.Ytljabocijojceaa.Pure
