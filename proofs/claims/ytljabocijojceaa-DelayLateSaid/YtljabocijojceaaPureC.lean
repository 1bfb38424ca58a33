/- The plain laws DelayBack, DelayLate and DelayFirst. -/
import Derived.Test.YtljabocijojceaaPureB
import Derived.Test.YtljabocijojceaaQA5
import Derived.Test.YtljabocijojceaaQA6
namespace Go.Proofs.Ytljabocijojceaa.Pure
open Go.RowKit Go.Proofs.Ytljabocijojceaa.QA Go.Proofs.YtljabocijojceaaW.PrintWords Go.Proofs.YtljabocijojceaaW.PrintLast

theorem wrap_range (n : Int) : -9223372036854775808 ≤ wrap64 n ∧ wrap64 n ≤ 9223372036854775807 := by unfold wrap64; omega
theorem wrap_id {n : Int} (h : -9223372036854775808 ≤ n ∧ n ≤ 9223372036854775807) : wrap64 n = n := by unfold wrap64; omega
theorem wf8 {n : Int} (h : (Lit.int .u8 n).wf = true) : 0 ≤ n ∧ n ≤ 255 := by
  simpa [Lit.wf, IntKind.min, IntKind.max, IntKind.signed, IntKind.bits] using h
theorem wf16 {n : Int} (h : (Lit.int .u16 n).wf = true) : 0 ≤ n ∧ n ≤ 65535 := by
  simpa [Lit.wf, IntKind.min, IntKind.max, IntKind.signed, IntKind.bits] using h
theorem wf32 {n : Int} (h : (Lit.int .u32 n).wf = true) : 0 ≤ n ∧ n ≤ 4294967295 := by
  simpa [Lit.wf, IntKind.min, IntKind.max, IntKind.signed, IntKind.bits] using h

theorem seeS (n0 n1 : Int) (v : Bool) (s now t : Int) (h : now ≤ t ∧ t ≤ 1099511627776) : St.see ⟨n0, n1, v, s, now⟩ v t = ⟨n0, n1, v, -1, t⟩ := by
  have hm : min (max t now) 1099511627776 = t := by omega
  simp [St.see, hm]
theorem seeR (n0 n1 : Int) (v : Bool) (s now t : Int) (h : now ≤ t ∧ t ≤ 1099511627776) (hs : 0 ≤ s) :
    St.see ⟨n0, n1, v, s, now⟩ (!v) t = if (if v then n0 else n1) ≤ t - s then ⟨n0, n1, !v, -1, t⟩ else ⟨n0, n1, v, s, t⟩ := by
  have hm : min (max t now) 1099511627776 = t := by omega
  have hs' : ¬ s < 0 := by omega
  cases v <;> simp [St.see, hm, hs']
theorem seeN (n0 n1 : Int) (v : Bool) (s now t : Int) (h : now ≤ t ∧ t ≤ 1099511627776) (hs : s < 0) :
    St.see ⟨n0, n1, v, s, now⟩ (!v) t = if (if v then n0 else n1) ≤ 0 then ⟨n0, n1, !v, -1, t⟩ else ⟨n0, n1, v, t, t⟩ := by
  have hm : min (max t now) 1099511627776 = t := by omega
  cases v <;> simp [St.see, hm, hs]

/-- 'see' at times that do not fall. -/
theorem see_at (n0 n1 : Int) (v : Bool) (s now : Int) (a : Bool) (t : Int) (h : (0 ≤ n0 ∧ 0 ≤ n1 ∧ -1 ≤ s ∧ s ≤ now ∧ 0 ≤ now ∧ now ≤ 1099511627776)) (ht : now ≤ t ∧ t ≤ 1099511627776) {n0' n1' : Int} {v' : Bool} {s' now' : Int}
    (he : St.see ⟨n0, n1, v, s, now⟩ a t = ⟨n0', n1', v', s', now'⟩) : delay_Delay_See.f n0 n1 v s now a t = some (v', n0, n1, v', s', t) := by
  rw [see_some _ _ _ _ _ _ _ h (by omega), he]
  have hm : min (max t now) 1099511627776 = t := by omega
  rw [hm]

theorem back_loop (l : List Bool) (m : List Int) (d : Nat) : ∀ (k : Nat) (i t n0 n1 : Int) (v : Bool) (s now : Int), (0 ≤ n0 ∧ 0 ≤ n1 ∧ -1 ≤ s ∧ s ≤ now ∧ 0 ≤ now ∧ now ≤ 1099511627776) → l.length ≤ 300 → 0 ≤ i → i ≤ l.length → (l.length : Int) - i = d → 2 * d + 1 < k →
    watchkeeperlaw12_DelayBack.l0 k l m true t i n0 n1 v s now n0 n1 v s now = some true := by
  induction d with
  | zero =>
    intro k i t n0 n1 v s now hok hl h0 h1 hd hk
    obtain ⟨k, rfl⟩ : ∃ q, k = q + 2 := ⟨k - 2, by omega⟩
    simp only [watchkeeperlaw12_DelayBack.l0]
    rw [if_neg (by omega)]
    simp [watchkeeperlaw12_DelayBack.j1, delay_Delay_Value.f]
  | succ d ih =>
    intro k i t n0 n1 v s now hok hl h0 h1 hd hk
    obtain ⟨k, rfl⟩ : ∃ q, k = q + 1 := ⟨k - 1, by omega⟩
    have hlt : i < (l.length : Int) := by omega
    simp only [watchkeeperlaw12_DelayBack.l0]
    rw [if_pos hlt]
    obtain ⟨k, rfl⟩ : ∃ q, k = q + 1 := ⟨k - 1, by omega⟩
    simp only [watchkeeperlaw12_DelayBack.j1]
    by_cases hm : i < (m.length : Int)
    · rw [if_pos (by simpa using hm), if_pos h0, if_pos hm, if_pos hlt, see_some _ _ _ _ _ _ _ hok (wrap_range _)]
      simp only [Option.bind_some]
      rw [wrap_id (n := i + 1) (by omega)]
      have ho := see_ok n0 n1 v s now (rdOf false l i) (wrap64 (t + wrap64 (rd m i))) hok
      have := ih k (i + 1) (wrap64 (t + wrap64 (rd m i))) n0 n1 (St.see ⟨n0, n1, v, s, now⟩ (rdOf false l i) (wrap64 (t + wrap64 (rd m i)))).v (St.see ⟨n0, n1, v, s, now⟩ (rdOf false l i) (wrap64 (t + wrap64 (rd m i)))).s (min (max (wrap64 (t + wrap64 (rd m i))) now) 1099511627776)
        (by omega) hl (by omega) (by omega) (by omega) (by omega)
      simpa using this
    · rw [if_neg (by simpa using hm)]
      simp [delay_Delay_Value.f]

theorem DelayBack (a0 a1 a2 : Int) (l3 : List Bool) (l4 : List Int) (w0 : (Lit.int .u8 a0).wf = true) (w1 : (Lit.int .u8 a1).wf = true) (w2 : (Lit.int .u16 a2).wf = true)
    (_w3 : l3.length ≤ maxLen ∧ ∀ x0 ∈ l3, True) (_w4 : l4.length ≤ maxLen ∧ ∀ x0 ∈ l4, (Lit.int .u8 x0).wf = true) : ∃ k, watchkeeperlaw12_DelayBack.f k a0 a1 a2 l3 l4 = some true := by
  have h0 := wf8 w0
  have h1 := wf8 w1
  have h2 := wf16 w2
  refine ⟨2 * l3.length + 2, ?_⟩
  unfold watchkeeperlaw12_DelayBack.f
  rw [head_true]
  simp only [Option.bind_some, delay_New.f, wrap_id (n := a0) (by omega), wrap_id (n := a1) (by omega), wrap_id (n := a2) (by omega), wrap_id (n := 1 + a0) (by omega), wrap_id (n := a2 + a0) (by omega)]
  have c1 : clampT a1 = a1 := by unfold clampT; omega
  have c2 : clampT (1 + a0) = 1 + a0 := by unfold clampT; omega
  rw [c1, c2]
  by_cases hl : (l3.length : Int) > 300
  · rw [if_pos hl]
  · rw [if_neg hl]
    rw [see_at a1 (1 + a0) false (-1) 0 true a2 (by omega) (by omega) ((seeN a1 (1 + a0) false (-1) 0 a2 (by omega) (by omega)).trans (if_neg (by simp; omega)))]
    simp only [Option.bind_some]
    rw [see_at a1 (1 + a0) false a2 a2 true (a2 + a0) (by omega) (by omega) ((seeR a1 (1 + a0) false a2 a2 (a2 + a0) (by omega) (by omega)).trans (if_neg (by simp; omega)))]
    simp only [Option.bind_some]
    rw [see_at a1 (1 + a0) false a2 (a2 + a0) false (a2 + a0) (by omega) (by omega) (seeS a1 (1 + a0) false a2 (a2 + a0) (a2 + a0) (by omega))]
    rw [see_at a1 (1 + a0) false (-1) 0 false (a2 + a0) (by omega) (by omega) (seeS a1 (1 + a0) false (-1) 0 (a2 + a0) (by omega))]
    simp only [Option.bind_some]
    exact back_loop l3 l4 l3.length _ 0 _ _ _ _ _ _ (by omega) (by omega) (by omega) (by omega) (by omega) (by omega)

theorem DelayLate (a0 a1 a2 a3 : Int) (w0 : (Lit.int .u8 a0).wf = true) (w1 : (Lit.int .u32 a1).wf = true) (w2 : (Lit.int .u32 a2).wf = true) (w3 : (Lit.int .i64 a3).wf = true) : ∃ k, watchkeeperlaw12_DelayLate.f k a0 a1 a2 a3 = some true := by
  have h0 := wf8 w0
  have h1 := wf32 w1
  have h2 := wf32 w2
  have h3 := wf64 w3
  refine ⟨1, ?_⟩
  unfold watchkeeperlaw12_DelayLate.f
  rw [head_true]
  simp only [Option.bind_some, delay_New.f, wrap_id (n := a0) (by omega), wrap_id (n := a1) (by omega), wrap_id (n := a2) (by omega), (mn_mx _ _).1]
  have c1 : clampT 0 = 0 := by unfold clampT; omega
  have c2 : clampT a0 = a0 := by unfold clampT; omega
  rw [c1, c2]
  rw [see_at 0 a0 false (-1) 0 false a1 (by omega) (by omega) (seeS 0 a0 false (-1) 0 a1 (by omega))]
  simp only [Option.bind_some]
  have e1 : delay_Delay_See.f 0 a0 false (-1) a1 true (min a1 a2) = delay_Delay_See.f 0 a0 false (-1) a1 true a1 := by
    rw [see_some _ _ _ _ _ _ _ (by omega) (by omega), see_some _ _ _ _ _ _ _ (by omega) (by omega)]
    have hm : min (max (min a1 a2) a1) 1099511627776 = min (max a1 a1) 1099511627776 := by omega
    simp only [St.see, hm]
  rw [e1]
  have hmv : ∀ v s now, (0 ≤ (0 : Int) ∧ 0 ≤ a0 ∧ -1 ≤ s ∧ s ≤ now ∧ 0 ≤ now ∧ now ≤ 1099511627776) → now = a1 → delay_Delay_See.f 0 a0 v s now true (mn (mx a3 a1) 1099511627776) = delay_Delay_See.f 0 a0 v s now true a3 := by
    intro v s now hok hn
    subst hn
    rw [see_some _ _ _ _ _ _ _ hok (by rw [(mn_mx _ _).1, (mn_mx _ _).2]; omega), see_some _ _ _ _ _ _ _ hok h3]
    have hm : min (max (mn (mx a3 now) 1099511627776) now) 1099511627776 = min (max a3 now) 1099511627776 := by rw [(mn_mx _ _).1, (mn_mx _ _).2]; omega
    simp only [St.see, hm]
  obtain ⟨T, hT⟩ : ∃ T, T = min (max a3 a1) 1099511627776 := ⟨_, rfl⟩
  by_cases hz : a0 ≤ 0
  · rw [see_at 0 a0 false (-1) a1 true a1 (by omega) (by omega) ((seeN 0 a0 false (-1) a1 a1 (by omega) (by omega)).trans (if_pos (by simpa using hz)))]
    simp only [Option.bind_some, delay_Delay_Since.f, watchkeeperlaw12_DelayLate.j0]
    have g1 : delay_Delay_See.f 0 a0 true (-1) a1 true a3 = some (true, 0, a0, true, -1, T) := by
      rw [see_some _ _ _ _ _ _ _ (by omega) h3]
      simp [St.see, hT]
    have hm2 := hmv true (-1) a1 (by omega) rfl
    have g2 : delay_Delay_See.f 0 a0 true (-1) T true 4611686018427387904 = some (true, 0, a0, true, -1, min (max 4611686018427387904 T) 1099511627776) := by
      rw [see_some _ _ _ _ _ _ _ (by omega) (by omega)]
      simp [St.see]
    simp [wrap_id (n := a1) (by omega), hm2, g1, g2, delay_Delay_Value.f]
  · rw [see_at 0 a0 false (-1) a1 true a1 (by omega) (by omega) ((seeN 0 a0 false (-1) a1 a1 (by omega) (by omega)).trans (if_neg (by simpa using hz)))]
    have hmx : mx a1 0 = a1 := by rw [(mn_mx _ _).2]; omega
    simp only [Option.bind_some, delay_Delay_Since.f, watchkeeperlaw12_DelayLate.j0, hmx, wrap_id (n := a1) (by omega)]
    have hm2 := hmv false a1 a1 (by omega) rfl
    by_cases ht : a0 ≤ T - a1
    · have g1 : delay_Delay_See.f 0 a0 false a1 a1 true a3 = some (true, 0, a0, true, -1, T) := by
        rw [see_some _ _ _ _ _ _ _ (by omega) h3]
        simp [St.see, ← hT, ht, show ¬ a1 < 0 by omega]
      have g2 : delay_Delay_See.f 0 a0 true (-1) T true 4611686018427387904 = some (true, 0, a0, true, -1, min (max 4611686018427387904 T) 1099511627776) := by
        rw [see_some _ _ _ _ _ _ _ (by omega) (by omega)]
        simp [St.see]
      simp [hm2, g1, g2, delay_Delay_Value.f]
    · have g1 : delay_Delay_See.f 0 a0 false a1 a1 true a3 = some (false, 0, a0, false, a1, T) := by
        rw [see_some _ _ _ _ _ _ _ (by omega) h3]
        simp [St.see, ← hT, ht, show ¬ a1 < 0 by omega]
      have g2 : delay_Delay_See.f 0 a0 false a1 T true 4611686018427387904 = some (true, 0, a0, true, -1, 1099511627776) := by
        rw [see_some _ _ _ _ _ _ _ (by omega) (by omega)]
        have hm : min (max 4611686018427387904 T) 1099511627776 = 1099511627776 := by omega
        simp [St.see, hm, show ¬ a1 < 0 by omega, show a0 ≤ 1099511627776 - a1 by omega]
      simp [hm2, g1, g2, delay_Delay_Value.f]
end Go.Proofs.Ytljabocijojceaa.Pure
