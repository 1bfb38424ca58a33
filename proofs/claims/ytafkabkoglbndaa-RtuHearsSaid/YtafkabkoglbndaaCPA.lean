/- The sums, as plain mathematics. -/
import Derived.Test.YtafkabkoglbndaaCA2
namespace Go.Proofs.Ytafkabkoglbndaa

def nsum (s : Nat) (l : List Nat) : Nat := l.foldl upd s
theorem sumN_nat (s : Nat) (l : List Int) : sumN s l = nsum s (l.map Int.toNat) := by
  unfold sumN nsum; rw [List.foldl_map]
theorem xor_lc (a b c : Nat) : a ^^^ (b ^^^ c) = b ^^^ (a ^^^ c) := by rw [← Nat.xor_assoc, Nat.xor_comm a b, Nat.xor_assoc]
theorem xor_two (a : Nat) : a ^^^ a = 0 := Nat.xor_self a
theorem xor_cancel (a b : Nat) : a ^^^ (a ^^^ b) = b := by rw [← Nat.xor_assoc, Nat.xor_self, Nat.zero_xor]
theorem bit1_xor (a b : Nat) : bit1 (a ^^^ b) = bit1 a ^^^ bit1 b := by
  unfold bit1
  have h2 : (a ^^^ b) / 2 = a / 2 ^^^ b / 2 := Nat.xor_div_two
  have hm : (a ^^^ b) % 2 = (a % 2 + b % 2) % 2 := by
    have := Nat.xor_mod_two_pow (a := a) (b := b) (n := 1)
    simp only [Nat.pow_one] at this
    rw [this]
    rcases Nat.mod_two_eq_zero_or_one a with ha | ha <;> rcases Nat.mod_two_eq_zero_or_one b with hb | hb <;> rw [ha, hb] <;> rfl
  rw [h2, hm]
  rcases Nat.mod_two_eq_zero_or_one a with ha | ha <;> rcases Nat.mod_two_eq_zero_or_one b with hb | hb <;> rw [ha, hb] <;> simp [Nat.xor_assoc, Nat.xor_comm, xor_lc, xor_cancel]
theorem fall_xor (a b k : Nat) : fall (a ^^^ b) k = fall a k ^^^ fall b k := by
  induction k with
  | zero => rfl
  | succ k ih => show bit1 (fall (a ^^^ b) k) = bit1 (fall a k) ^^^ bit1 (fall b k); rw [ih, bit1_xor]
theorem tab_xor (a b : Nat) : tab (a ^^^ b) = tab a ^^^ tab b := fall_xor a b 8
theorem tab_zero : tab 0 = 0 := by decide
theorem tab_small : ∀ j : Fin 256, tab j.val / 256 = 0 → j.val = 0 := by decide +kernel
theorem tab_small' (j : Nat) (hj : j < 256) (h : tab j < 256) : j = 0 := tab_small ⟨j, hj⟩ (by show tab j / 256 = 0; omega)
theorem div_xor (a b : Nat) : (a ^^^ b) / 256 = a / 256 ^^^ b / 256 := by
  have := Nat.shiftRight_xor_distrib (a := a) (b := b) (i := 8)
  simpa [Nat.shiftRight_eq_div_pow] using this
theorem mod_xor (a b : Nat) : (a ^^^ b) % 256 = a % 256 ^^^ b % 256 := Nat.xor_mod_two_pow (n := 8)
theorem upd_xor (s t c d : Nat) : upd (s ^^^ t) (c ^^^ d) = upd s c ^^^ upd t d := by
  unfold upd
  rw [div_xor, mod_xor, show (s % 256 ^^^ t % 256) ^^^ (c ^^^ d) = (s % 256 ^^^ c) ^^^ (t % 256 ^^^ d) by simp only [Nat.xor_assoc, xor_lc], tab_xor]
  simp only [Nat.xor_assoc, xor_lc]
theorem nsum_xor (x y : List Nat) : ∀ (s t : Nat), x.length = y.length → nsum (s ^^^ t) (List.zipWith (· ^^^ ·) x y) = nsum s x ^^^ nsum t y := by
  induction x generalizing y with
  | nil => intro s t h; cases y with
    | nil => rfl
    | cons => simp at h
  | cons a x ih =>
    intro s t h
    cases y with
    | nil => simp at h
    | cons b y =>
      show nsum (upd (s ^^^ t) (a ^^^ b)) (List.zipWith (· ^^^ ·) x y) = nsum (upd s a) x ^^^ nsum (upd t b) y
      rw [upd_xor, ih y _ _ (by simpa using h)]
theorem xor_zero_iff (a b : Nat) : a ^^^ b = 0 ↔ a = b := by
  constructor
  · intro h; have := congrArg (· ^^^ b) h; simpa [Nat.xor_assoc] using this
  · rintro rfl; exact Nat.xor_self _
/-- What comes to 0 with one byte. -/
theorem upd_zero (s c : Nat) (hs : s < 65536) (hc : c < 256) (h : upd s c = 0) : s = c := by
  unfold upd at h
  have e := (xor_zero_iff _ _).1 h
  have hj : (s % 256) ^^^ c < 256 := Nat.xor_lt_two_pow (n := 8) (by omega) (by omega)
  have h0 := tab_small' _ hj (by omega)
  rw [h0, tab_zero] at e
  have := (xor_zero_iff _ _).1 h0
  omega
theorem upd_two (s p q : Nat) (hs : s < 65536) (hp : p < 256) (hq : q < 256) (h : upd (upd s p) q = 0) : p = s % 256 ∧ q = s / 256 := by
  have e := upd_zero _ _ (upd_lt s p hs hp) hq h
  have hj : (s % 256) ^^^ p < 256 := Nat.xor_lt_two_pow (n := 8) (by omega) (by omega)
  have h1 : upd s p / 256 = 0 := by omega
  unfold upd at h1
  rw [div_xor, show s / 256 / 256 = 0 by omega, Nat.zero_xor] at h1
  have h0 := tab_small' _ hj (by omega)
  have hp' := (xor_zero_iff _ _).1 h0
  refine ⟨by omega, ?_⟩
  unfold upd at e
  rw [h0, tab_zero, Nat.xor_zero] at e
  exact e.symm
theorem upd_own (s : Nat) (hs : s < 65536) : upd (upd s (s % 256)) (s / 256) = 0 := by
  have h1 : upd s (s % 256) = s / 256 := by unfold upd; rw [Nat.xor_self, tab_zero, Nat.xor_zero]
  rw [h1]
  unfold upd
  rw [show s / 256 / 256 = 0 by omega, show s / 256 % 256 = s / 256 by omega, Nat.xor_self, tab_zero]; rfl
theorem nsum_append (s : Nat) (x y : List Nat) : nsum s (x ++ y) = nsum (nsum s x) y := by unfold nsum; rw [List.foldl_append]
theorem nsum_lt (l : List Nat) : ∀ s, s < 65536 → (∀ x ∈ l, x < 256) → nsum s l < 65536 := by
  induction l with
  | nil => intro s hs _; exact hs
  | cons a l ih => intro s hs h; exact ih _ (upd_lt s a hs (h a (by simp))) (fun x hx => h x (by simp [hx]))
theorem nsum_seal (l : List Nat) (h : ∀ x ∈ l, x < 256) : nsum 65535 (l ++ [nsum 65535 l % 256, nsum 65535 l / 256]) = 0 := by
  rw [nsum_append]; exact upd_own _ (nsum_lt l _ (by omega) h)
theorem nsum_sealed (l : List Nat) (p q : Nat) (h : ∀ x ∈ l, x < 256) (hp : p < 256) (hq : q < 256) : nsum 65535 (l ++ [p, q]) = 0 ↔ p = nsum 65535 l % 256 ∧ q = nsum 65535 l / 256 := by
  constructor
  · intro e; rw [nsum_append] at e; exact upd_two _ p q (nsum_lt l _ (by omega) h) hp hq e
  · rintro ⟨rfl, rfl⟩; exact nsum_seal l h
theorem nsum_zeros (n : Nat) : nsum 0 (List.replicate n 0) = 0 := by
  induction n with
  | zero => rfl
  | succ n ih => rw [List.replicate_succ]; show nsum (upd 0 0) _ = 0; rw [show upd 0 0 = 0 by decide]; exact ih
/-- Bytes of no change keep what is not 0. -/
theorem nsum_keeps (n : Nat) : ∀ t, t < 65536 → t ≠ 0 → nsum t (List.replicate n 0) ≠ 0 := by
  induction n with
  | zero => intro t _ h; exact h
  | succ n ih =>
    intro t ht h
    rw [List.replicate_succ]
    refine ih _ (upd_lt t 0 ht (by omega)) (fun e => h (upd_zero t 0 ht (by omega) e))
theorem nsum_diff (d e n m : Nat) (hd : d < 256) (he : e < 256) (h : nsum 0 (List.replicate n 0 ++ ([d, e] ++ List.replicate m 0)) = 0) : d = 0 ∧ e = 0 := by
  rw [nsum_append, nsum_zeros, nsum_append] at h
  by_cases hz : nsum 0 [d, e] = 0
  · have := upd_two 0 d e (by omega) hd he hz; omega
  · exact absurd h (nsum_keeps m _ (upd_lt _ _ (upd_lt 0 d (by omega) hd) he) hz)
theorem nsum_diff1 (d n m : Nat) (hd : d < 256) (h : nsum 0 (List.replicate n 0 ++ ([d] ++ List.replicate m 0)) = 0) : d = 0 := by
  rw [nsum_append, nsum_zeros, nsum_append] at h
  by_cases hz : nsum 0 [d] = 0
  · have := upd_zero 0 d (by omega) hd hz; omega
  · exact absurd h (nsum_keeps m _ (upd_lt 0 d (by omega) hd) hz)
theorem zip_self (x : List Nat) : List.zipWith (· ^^^ ·) x x = List.replicate x.length 0 := by
  induction x with
  | nil => rfl
  | cons a x ih => rw [List.zipWith_cons_cons, ih, Nat.xor_self]; rfl
/-- Two that stand together are turned. -/
theorem nsum_turned (a b : List Nat) (p q d e : Nat) (hd : d < 256) (he : e < 256) (h : nsum 65535 (a ++ p :: q :: b) = 0) : nsum 65535 (a ++ (p ^^^ d) :: (q ^^^ e) :: b) = 0 ↔ d = 0 ∧ e = 0 := by
  constructor
  · intro h2
    have := nsum_xor (a ++ p :: q :: b) (a ++ (p ^^^ d) :: (q ^^^ e) :: b) 65535 65535 (by simp)
    rw [h, h2, Nat.xor_self, Nat.xor_self, List.zipWith_append rfl] at this
    simp only [List.zipWith_cons_cons, zip_self, ← Nat.xor_assoc, Nat.xor_self, Nat.zero_xor] at this
    exact nsum_diff d e _ _ hd he this
  · rintro ⟨rfl, rfl⟩; simpa using h
theorem nsum_turned1 (a b : List Nat) (p d : Nat) (hd : d < 256) (h : nsum 65535 (a ++ p :: b) = 0) (hd0 : d ≠ 0) : nsum 65535 (a ++ (p ^^^ d) :: b) ≠ 0 := by
  intro h2
  have := nsum_xor (a ++ p :: b) (a ++ (p ^^^ d) :: b) 65535 65535 (by simp)
  rw [h, h2, Nat.xor_self, Nat.xor_self, List.zipWith_append rfl] at this
  simp only [List.zipWith_cons_cons, zip_self, ← Nat.xor_assoc, Nat.xor_self, Nat.zero_xor] at this
  exact hd0 (nsum_diff1 d _ _ hd this)
/-- Of bytes that are alike in length. -/
theorem nsum_three (x y : List Nat) (h : x.length = y.length) : nsum 65535 (List.zipWith (· ^^^ ·) x y) ^^^ nsum 65535 x ^^^ nsum 65535 y = nsum 65535 (List.replicate x.length 0) := by
  have h1 := nsum_xor x y 65535 65535 h
  rw [Nat.xor_self] at h1
  have h2 := nsum_xor (List.zipWith (· ^^^ ·) x y) (List.replicate x.length 0) 65535 65535 (by simp [h])
  rw [Nat.xor_self] at h2
  have h3 : List.zipWith (· ^^^ ·) (List.zipWith (· ^^^ ·) x y) (List.replicate x.length 0) = List.zipWith (· ^^^ ·) x y := by
    clear h1 h2
    induction x generalizing y with
    | nil => rfl
    | cons a x ih => cases y with
      | nil => rfl
      | cons b y => simp [List.replicate_succ, ih y (by simpa using h)]
  rw [h3, h1] at h2
  rw [Nat.xor_assoc, h2, xor_cancel]
/-- The reference's round. -/
theorem upd_fall (s c : Nat) (hs : s < 65536) (hc : c < 256) : upd s c = fall (s ^^^ c) 8 := by
  have e : s ^^^ c = (s / 256 * 256) ^^^ ((s % 256) ^^^ c) := by
    rw [← Nat.xor_assoc]
    congr 1
    have hh : s / 256 * 256 ^^^ s % 256 = s / 256 * 256 + s % 256 := by
      have h1 := div_xor (s / 256 * 256) (s % 256)
      have h2 := mod_xor (s / 256 * 256) (s % 256)
      rw [show s / 256 * 256 / 256 = s / 256 by omega, show s % 256 / 256 = 0 by omega, Nat.xor_zero] at h1
      rw [show s / 256 * 256 % 256 = 0 by omega, show s % 256 % 256 = s % 256 by omega, Nat.zero_xor] at h2
      omega
    omega
  rw [e, fall_xor]
  unfold upd tab
  congr 1
  have hb : s / 256 < 256 := by omega
  exact (by decide +kernel : ∀ h : Fin 256, h.val = fall (h.val * 256) 8) ⟨s / 256, hb⟩
end Go.Proofs.Ytafkabkoglbndaa
