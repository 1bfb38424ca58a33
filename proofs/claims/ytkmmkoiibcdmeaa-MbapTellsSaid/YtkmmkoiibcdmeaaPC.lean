/- What is cut: plain mathematics. -/
import Derived.Test.YtkmmkoiibcdmeaaCV
namespace Go.Proofs.Ytkmmkoiibcdmeaa
open Go.RowKit Go.Proofs.YtkmmkoiibcdmeaaW.PrintWords Go.Proofs.YtkmmkoiibcdmeaaW.PrintLast
set_option linter.unusedVariables false
set_option linter.unusedSimpArgs false
theorem bytes_wf {l : List Int} (h : ∀ x ∈ l, (Lit.int .u8 x).wf = true) : Bytes l := fun x hx => by
  have := h x hx
  simp only [Lit.wf, IntKind.min, IntKind.max, IntKind.signed, IntKind.bits, Bool.and_eq_true, decide_eq_true_eq, Bool.false_eq_true, if_false] at this
  omega
theorem bytes_all {l : List Int} (h : Bytes l) : l.all isByte = true := List.all_eq_true.2 fun x hx => by
  have := h x hx; simpa [isByte] using this
theorem bytes_append {l m : List Int} (h : Bytes l) (k : Bytes m) : Bytes (l ++ m) := fun x hx => (List.mem_append.1 hx).elim (h x) (k x)
theorem headOf_append (a b : List Int) : headOf (a ++ b) = headOf a ++ (b.take (4 - a.length)).drop (2 - (a.take 4).length) := by
  unfold headOf; rw [List.take_append, List.drop_append]
theorem headOf_long (a b : List Int) (h : 4 ≤ a.length) : headOf (a ++ b) = headOf a := by
  rw [headOf_append, show 4 - a.length = 0 by omega]; simp
theorem zeros_append {a b : List Int} (h : a ++ b = List.replicate (a ++ b).length 0) : a = List.replicate a.length 0 := by
  have := congrArg (List.take a.length) h
  rw [List.take_left, List.take_replicate, List.length_append, Nat.min_eq_left (by omega)] at this
  exact this
theorem rd_append (a b : List Int) (i : Nat) (h : i < a.length) : rd (a ++ b) i = rd a i := by
  unfold rd; simp [List.getD_eq_getElem?_getD, List.getElem?_append_left h]
theorem w16_append (a b : List Int) (h : 2 ≤ a.length) : w16 (a ++ b) = w16 a := by
  have h0 : rd (a ++ b) 0 = rd a 0 := rd_append a b 0 (by omega)
  have h1 : rd (a ++ b) 1 = rd a 1 := rd_append a b 1 (by omega)
  unfold w16; rw [h0, h1]
theorem n16_append (a b : List Int) (h : 6 ≤ a.length) : n16 (a ++ b) = n16 a := by
  unfold n16; rw [List.drop_append_of_le_length (by omega), w16_append _ _ (by rw [List.length_drop]; omega)]
/-- The cases of the first frame. -/
theorem first_is (l : List Int) : (firstOf l = (0, 0, [], 0, 31)) ∨ (firstOf l = (0, 0, [], 0, 0)) ∨
    (headOf l = List.replicate (headOf l).length 0 ∧ 6 ≤ l.length ∧ 2 ≤ n16 l ∧ n16 l ≤ 254 ∧ 6 + n16 l ≤ l.length ∧ firstOf l = (w16 l, rd l 6, (l.take (6 + n16 l).toNat).drop 7, 6 + n16 l, 0)) := by
  by_cases hz : headOf l = List.replicate (headOf l).length 0
  · by_cases h6 : l.length < 6
    · right; left; unfold firstOf; rw [if_pos hz, if_pos h6]
    by_cases h2 : n16 l < 2
    · left; unfold firstOf; rw [if_pos hz, if_neg h6, if_pos h2]
    by_cases h254 : 254 < n16 l
    · left; unfold firstOf; rw [if_pos hz, if_neg h6, if_neg h2, if_pos h254]
    by_cases hs : (l.length : Int) < 6 + n16 l
    · right; left; unfold firstOf; rw [if_pos hz, if_neg h6, if_neg h2, if_neg h254, if_pos hs]
    · right; right; refine ⟨hz, by omega, by omega, by omega, by omega, ?_⟩; unfold firstOf; rw [if_pos hz, if_neg h6, if_neg h2, if_neg h254, if_neg hs]
  · left; unfold firstOf; rw [if_neg hz]
/-- A frame is the same whatever follows. -/
theorem first_on (a b : List Int) (h : (firstOf a).2.2.2.1 ≠ 0) : firstOf (a ++ b) = firstOf a := by
  rcases first_is a with e | e | ⟨hz, h6, h2, h254, hs, e⟩
  · rw [e] at h; exact absurd rfl h
  · rw [e] at h; exact absurd rfl h
  · rw [e]
    have e4 : headOf (a ++ b) = headOf a := headOf_long a b (by omega)
    have en : n16 (a ++ b) = n16 a := n16_append a b h6
    unfold firstOf
    rw [e4, if_pos hz, en, if_neg (by rw [List.length_append]; omega), if_neg (by omega), if_neg (by omega), if_neg (by rw [List.length_append]; omega), w16_append _ _ (by omega), List.take_append_of_le_length (by omega)]
    have : rd (a ++ b) 6 = rd a 6 := rd_append a b 6 (by omega)
    rw [this]
theorem first_bad (a b : List Int) (h : (firstOf a).2.2.2.2 ≠ 0) : firstOf (a ++ b) = firstOf a := by
  by_cases hz : headOf a = List.replicate (headOf a).length 0
  · by_cases h6 : a.length < 6
    · have e : firstOf a = (0, 0, [], 0, 0) := by unfold firstOf; rw [if_pos hz, if_pos h6]
      rw [e] at h; exact absurd rfl h
    · have e4 : headOf (a ++ b) = headOf a := headOf_long a b (by omega)
      have en : n16 (a ++ b) = n16 a := n16_append a b (by omega)
      have hl : ¬ (a ++ b).length < 6 := by rw [List.length_append]; omega
      by_cases h2 : n16 a < 2
      · unfold firstOf; rw [e4, if_pos hz, if_pos hz, if_neg hl, if_neg h6, en, if_pos h2, if_pos h2]
      by_cases h254 : 254 < n16 a
      · unfold firstOf; rw [e4, if_pos hz, if_pos hz, if_neg hl, if_neg h6, en, if_neg h2, if_neg h2, if_pos h254, if_pos h254]
      by_cases hs : (a.length : Int) < 6 + n16 a
      · have e : firstOf a = (0, 0, [], 0, 0) := by unfold firstOf; rw [if_pos hz, if_neg h6, if_neg h2, if_neg h254, if_pos hs]
        rw [e] at h; exact absurd rfl h
      · have e : firstOf a = (w16 a, rd a 6, (a.take (6 + n16 a).toNat).drop 7, 6 + n16 a, 0) := by unfold firstOf; rw [if_pos hz, if_neg h6, if_neg h2, if_neg h254, if_neg hs]
        rw [e] at h; exact absurd rfl h
  · have hz' : ¬ headOf (a ++ b) = List.replicate (headOf (a ++ b)).length 0 := fun h => hz (by rw [headOf_append] at h; exact zeros_append h)
    unfold firstOf; rw [if_neg hz, if_neg hz']
theorem first_zero {l : List Int} (h : (firstOf l).2.2.2.1 = 0) : firstOf l = (0, 0, [], 0, (firstOf l).2.2.2.2) := by
  rcases first_is l with e | e | ⟨_, _, h2, _, _, e⟩
  · rw [e]
  · rw [e]
  · rw [e] at h; exact absurd (show 6 + n16 l = 0 from h) (by omega)
theorem first_ok {l : List Int} (h : (firstOf l).2.2.2.1 ≠ 0) : (firstOf l).2.2.2.2 = 0 := by
  rcases first_is l with e | e | ⟨_, _, h2, _, _, e⟩
  · rw [e] at h; exact absurd rfl h
  · rw [e]
  · rw [e]
/-! ### a frame's bytes -/
def Fine (x : QD.S26) : Prop := 1 ≤ x.f2.length ∧ x.f2.length ≤ 253 ∧ (0 ≤ x.f0 ∧ x.f0 < 65536) ∧ (0 ≤ x.f1 ∧ x.f1 ≤ 255) ∧ Bytes x.f2
def bytesOf (x : QD.S26) : List Int := [x.f0 / 256 % 256, x.f0 % 256, 0, 0, ((x.f2.length : Int) + 1) / 256 % 256, ((x.f2.length : Int) + 1) % 256, x.f1] ++ x.f2
theorem bytesOf_len (x : QD.S26) : (bytesOf x).length = x.f2.length + 7 := by unfold bytesOf; simp
theorem bytesOf_bytes {x : QD.S26} (h : Fine x) : Bytes (bytesOf x) := by
  obtain ⟨_, _, _, h1, hb⟩ := h
  refine bytes_append (fun y hy => ?_) hb
  simp only [List.mem_cons, List.not_mem_nil, or_false] at hy
  rcases hy with rfl | rfl | rfl | rfl | rfl | rfl | rfl <;> omega
theorem first_bytes {x : QD.S26} (h : Fine x) (r : List Int) : firstOf (bytesOf x ++ r) = (x.f0, x.f1, x.f2, (x.f2.length : Int) + 7, 0) := by
  obtain ⟨h1, h2, h3, h4, hb⟩ := h
  obtain ⟨id, u, p⟩ := x
  simp only at h1 h2 h3 h4 hb
  have e : bytesOf ⟨id, u, p⟩ ++ r = id / 256 % 256 :: id % 256 :: 0 :: 0 :: ((p.length : Int) + 1) / 256 % 256 :: ((p.length : Int) + 1) % 256 :: u :: (p ++ r) := by unfold bytesOf; simp
  rw [e]
  have hh : headOf (id / 256 % 256 :: id % 256 :: 0 :: 0 :: ((p.length : Int) + 1) / 256 % 256 :: ((p.length : Int) + 1) % 256 :: u :: (p ++ r)) = [0, 0] := by unfold headOf; simp
  have hn : n16 (id / 256 % 256 :: id % 256 :: 0 :: 0 :: ((p.length : Int) + 1) / 256 % 256 :: ((p.length : Int) + 1) % 256 :: u :: (p ++ r)) = (p.length : Int) + 1 := by
    unfold n16 w16 rd; simp; omega
  have hw : w16 (id / 256 % 256 :: id % 256 :: 0 :: 0 :: ((p.length : Int) + 1) / 256 % 256 :: ((p.length : Int) + 1) % 256 :: u :: (p ++ r)) = id := by
    unfold w16 rd; simp; omega
  have hr : rd (id / 256 % 256 :: id % 256 :: 0 :: 0 :: ((p.length : Int) + 1) / 256 % 256 :: ((p.length : Int) + 1) % 256 :: u :: (p ++ r)) 6 = u := by unfold rd; simp
  unfold firstOf
  rw [hh, if_pos (by simp), hn, hw, hr, if_neg (by simp), if_neg (by omega), if_neg (by omega), if_neg (by simp; omega)]
  have ht : (6 + ((p.length : Int) + 1)).toNat = p.length + 7 := by omega
  rw [ht]
  refine Prod.ext rfl (Prod.ext rfl (Prod.ext ?_ (Prod.ext ?_ rfl)))
  · simp
  · show 6 + ((p.length : Int) + 1) = (p.length : Int) + 7; omega
/-- What a frame's beginning is, is its bytes. -/
theorem first_take {l : List Int} (hb : Bytes l) (h : (firstOf l).2.2.2.1 ≠ 0) : Fine ⟨(firstOf l).1, (firstOf l).2.1, (firstOf l).2.2.1⟩ ∧ l.take (firstOf l).2.2.2.1.toNat = bytesOf ⟨(firstOf l).1, (firstOf l).2.1, (firstOf l).2.2.1⟩ := by
  rcases first_is l with e | e | ⟨hz, h6, h2, h254, hs, e⟩
  · rw [e] at h; exact absurd rfl h
  · rw [e] at h; exact absurd rfl h
  · rw [e]
    show Fine ⟨w16 l, rd l 6, (l.take (6 + n16 l).toNat).drop 7⟩ ∧ l.take (6 + n16 l).toNat = bytesOf ⟨w16 l, rd l 6, (l.take (6 + n16 l).toNat).drop 7⟩
    obtain ⟨a0, a1, a2, a3, a4, a5, a6, t, rfl⟩ : ∃ a0 a1 a2 a3 a4 a5 a6 t, l = a0 :: a1 :: a2 :: a3 :: a4 :: a5 :: a6 :: t := by
      match l, h6, h2, hs with
      | a0 :: a1 :: a2 :: a3 :: a4 :: a5 :: a6 :: t, _, _, _ => exact ⟨_, _, _, _, _, _, _, _, rfl⟩
      | [a0, a1, a2, a3, a4, a5], _, h2, hs => simp at hs; omega
      | [], h, _, _ => simp at h
      | [_], h, _, _ => simp at h
      | [_, _], h, _, _ => simp at h
      | [_, _, _], h, _, _ => simp at h
      | [_, _, _, _], h, _, _ => simp at h
      | [_, _, _, _, _], h, _, _ => simp at h
    have b0 := hb a0 (by simp)
    have b1 := hb a1 (by simp)
    have b4 := hb a4 (by simp)
    have b5 := hb a5 (by simp)
    have b6 := hb a6 (by simp)
    have hbt : Bytes t := fun x hx => hb x (by simp [hx])
    have hn : n16 (a0 :: a1 :: a2 :: a3 :: a4 :: a5 :: a6 :: t) = a4 * 256 + a5 := by unfold n16 w16 rd; simp
    have hw : w16 (a0 :: a1 :: a2 :: a3 :: a4 :: a5 :: a6 :: t) = a0 * 256 + a1 := by unfold w16 rd; simp
    have hr : rd (a0 :: a1 :: a2 :: a3 :: a4 :: a5 :: a6 :: t) 6 = a6 := by unfold rd; simp
    have hz2 : a2 = 0 ∧ a3 = 0 := by
      have : headOf (a0 :: a1 :: a2 :: a3 :: a4 :: a5 :: a6 :: t) = [a2, a3] := by unfold headOf; simp
      rw [this] at hz
      simp at hz; exact hz
    obtain ⟨rfl, rfl⟩ := hz2
    rw [hn] at h2 h254 hs ⊢
    rw [hw, hr]
    obtain ⟨m, hm⟩ : ∃ m : Nat, a4 * 256 + a5 = (m : Int) + 1 := ⟨(a4 * 256 + a5 - 1).toNat, by omega⟩
    rw [hm] at h2 h254 hs ⊢
    have ht : (6 + ((m : Int) + 1)).toNat = m + 7 := by omega
    rw [ht]
    have hmt : m ≤ t.length := by simp at hs; omega
    have hd : List.drop 7 (List.take (m + 7) (a0 :: a1 :: 0 :: 0 :: a4 :: a5 :: a6 :: t)) = t.take m := by simp
    rw [hd]
    have hlm : (t.take m).length = m := by rw [List.length_take]; omega
    refine ⟨⟨by rw [hlm]; omega, by rw [hlm]; omega, by show 0 ≤ a0 * 256 + a1 ∧ a0 * 256 + a1 < 65536; omega, b6, bytes_take hbt m⟩, ?_⟩
    unfold bytesOf
    show _ = [(a0 * 256 + a1) / 256 % 256, (a0 * 256 + a1) % 256, 0, 0, (((t.take m).length : Int) + 1) / 256 % 256, (((t.take m).length : Int) + 1) % 256, a6] ++ t.take m
    rw [hlm, ← hm, show (a0 * 256 + a1) / 256 % 256 = a0 by omega, show (a0 * 256 + a1) % 256 = a1 by omega, show (a4 * 256 + a5) / 256 % 256 = a4 by omega, show (a4 * 256 + a5) % 256 = a5 by omega]
    simp
/-! ### all frames -/
inductive Cuts : List Int → List QD.S26 → Nat → Int → Prop
  | stop {b : List Int} (h : (firstOf b).2.2.2.1 = 0) : Cuts b [] 0 (firstOf b).2.2.2.2
  | on {b : List Int} {l : List QD.S26} {n : Nat} {e : Int} (h : (firstOf b).2.2.2.1 ≠ 0) (t : Cuts (b.drop (firstOf b).2.2.2.1.toNat) l n e) : Cuts b (⟨(firstOf b).1, (firstOf b).2.1, (firstOf b).2.2.1⟩ :: l) ((firstOf b).2.2.2.1.toNat + n) e
theorem cuts_go : ∀ (f : Nat) (b : List Int) (k : Nat) (out : List QD.S26), k ≤ b.length → b.length < f + k → ∃ l n e, Cuts (b.drop k) l n e ∧ cutGo f b k out = (out ++ l, ((k + n : Nat) : Int), e) := by
  intro f
  induction f with
  | zero => intro b k out h1 h2; omega
  | succ f ih =>
    intro b k out h1 h2
    by_cases h : (firstOf (b.drop k)).2.2.2.1 = 0
    · exact ⟨[], 0, _, .stop h, by rw [cutGo, if_pos h]; simp⟩
    · have hc := (first_cases (b.drop k)).resolve_left h
      rw [List.length_drop] at hc
      obtain ⟨l, n, e, hl, hg⟩ := ih b (k + (firstOf (b.drop k)).2.2.2.1.toNat) (out ++ [⟨(firstOf (b.drop k)).1, (firstOf (b.drop k)).2.1, (firstOf (b.drop k)).2.2.1⟩]) (by omega) (by omega)
      refine ⟨_, _, e, .on h (by rw [List.drop_drop]; exact hl), ?_⟩
      rw [cutGo, if_neg h, hg]
      simp [Nat.add_assoc]
theorem cuts_of (b : List Int) : ∃ l n e, Cuts b l n e ∧ cutOf b = (l, (n : Int), e) := by
  obtain ⟨l, n, e, h1, h2⟩ := cuts_go (b.length + 1) b 0 [] (by omega) (by omega)
  exact ⟨l, n, e, h1, by unfold cutOf; rw [h2]; simp⟩
theorem Cuts.same {b : List Int} {l l' : List QD.S26} {n n' : Nat} {e e' : Int} (h : Cuts b l n e) (k : Cuts b l' n' e') : l = l' ∧ n = n' ∧ e = e' := by
  induction h generalizing l' n' e' with
  | stop h => cases k with
    | stop _ => exact ⟨rfl, rfl, rfl⟩
    | on h2 _ => exact absurd h h2
  | on h t ih => cases k with
    | stop h2 => exact absurd h2 h
    | on _ t2 => obtain ⟨rfl, rfl, rfl⟩ := ih t2; exact ⟨rfl, rfl, rfl⟩
theorem Cuts.cutOf {b : List Int} {l : List QD.S26} {n : Nat} {e : Int} (h : Cuts b l n e) : cutOf b = (l, (n : Int), e) := by
  obtain ⟨l', n', e', h1, h2⟩ := cuts_of b
  obtain ⟨rfl, rfl, rfl⟩ := h.same h1
  exact h2
theorem Cuts.le {b : List Int} {l : List QD.S26} {n : Nat} {e : Int} (h : Cuts b l n e) : n ≤ b.length ∧ l.length ≤ b.length := by
  induction h with
  | stop h => exact ⟨Nat.zero_le _, by simp⟩
  | on h t ih =>
    rename_i b l n e
    have hc := (first_cases b).resolve_left h
    rw [List.length_drop] at ih
    exact ⟨by omega, by rw [List.length_cons]; omega⟩
/-- What is cut is what stands there; what is left begins with no frame. -/
theorem Cuts.rest {b : List Int} {l : List QD.S26} {n : Nat} {e : Int} (h : Cuts b l n e) (hb : Bytes b) : (∀ x ∈ l, Fine x) ∧ l.flatMap bytesOf = b.take n ∧ firstOf (b.drop n) = (0, 0, [], 0, e) := by
  induction h with
  | stop h => exact ⟨by simp, by simp, by rw [List.drop_zero]; exact first_zero h⟩
  | on h t ih =>
    rename_i b l n e
    obtain ⟨i1, i2, i3⟩ := ih (bytes_drop hb _)
    obtain ⟨f1, f2⟩ := first_take hb h
    refine ⟨fun x hx => ?_, ?_, by rw [← i3, List.drop_drop]⟩
    · rcases List.mem_cons.1 hx with rfl | hx
      · exact f1
      · exact i1 x hx
    · rw [List.flatMap_cons, i2, ← f2, List.take_add]
/-- What is put is cut. -/
theorem cuts_put {l : List QD.S26} (hl : ∀ x ∈ l, Fine x) {r : List Int} {l' : List QD.S26} {n' : Nat} {e' : Int} (h : Cuts r l' n' e') : Cuts (l.flatMap bytesOf ++ r) (l ++ l') ((l.flatMap bytesOf).length + n') e' := by
  induction l with
  | nil => simpa using h
  | cons x l ih =>
    have hx := hl x (by simp)
    have ih := ih (fun y hy => hl y (by simp [hy]))
    have hf := first_bytes hx (l.flatMap bytesOf ++ r)
    have e : (x :: l).flatMap bytesOf ++ r = bytesOf x ++ (l.flatMap bytesOf ++ r) := by simp
    have hn : (firstOf ((x :: l).flatMap bytesOf ++ r)).2.2.2.1.toNat = (bytesOf x).length := by rw [e, hf, bytesOf_len]; show ((x.f2.length : Int) + 7).toNat = _; omega
    have ht : Cuts (((x :: l).flatMap bytesOf ++ r).drop (firstOf ((x :: l).flatMap bytesOf ++ r)).2.2.2.1.toNat) (l ++ l') ((l.flatMap bytesOf).length + n') e' := by
      rw [hn, e, List.drop_left]; exact ih
    have := Cuts.on (b := (x :: l).flatMap bytesOf ++ r) (by rw [e, hf]; show (x.f2.length : Int) + 7 ≠ 0; omega) ht
    rw [hn] at this
    have hx2 : (⟨(firstOf ((x :: l).flatMap bytesOf ++ r)).1, (firstOf ((x :: l).flatMap bytesOf ++ r)).2.1, (firstOf ((x :: l).flatMap bytesOf ++ r)).2.2.1⟩ : QD.S26) = x := by rw [e, hf]
    rw [hx2] at this
    rw [show ((x :: l).flatMap bytesOf).length + n' = (bytesOf x).length + ((l.flatMap bytesOf).length + n') by simp; omega]
    exact this
theorem cuts_nil : Cuts [] [] 0 0 := .stop (b := []) (by decide)
/-- In pieces it is the same. -/
theorem Cuts.more {b : List Int} {l : List QD.S26} {n : Nat} {e : Int} (h : Cuts b l n e) (c : List Int) : (e ≠ 0 → Cuts (b ++ c) l n e) ∧ (e = 0 → ∀ {l' : List QD.S26} {n' : Nat} {e' : Int}, Cuts (b.drop n ++ c) l' n' e' → Cuts (b ++ c) (l ++ l') (n + n') e') := by
  induction h with
  | stop h =>
    rename_i b
    refine ⟨fun he => ?_, fun _ l' n' e' k => ?_⟩
    · have := first_bad b c he
      rw [← this]
      exact .stop (by rw [this]; exact h)
    · simpa using k
  | on h t ih =>
    rename_i b l n e
    have hf := first_on b c h
    have hc := (first_cases b).resolve_left h
    have hd : (b ++ c).drop (firstOf (b ++ c)).2.2.2.1.toNat = b.drop (firstOf b).2.2.2.1.toNat ++ c := by rw [hf, List.drop_append_of_le_length (by omega)]
    refine ⟨fun he => ?_, fun he l' n' e' k => ?_⟩
    · have := Cuts.on (b := b ++ c) (by rw [hf]; exact h) (by rw [hd]; exact ih.1 he)
      rw [hf] at this
      exact this
    · rw [← List.drop_drop] at k
      have := Cuts.on (b := b ++ c) (by rw [hf]; exact h) (by rw [hd]; exact ih.2 he k)
      rw [hf] at this
      rw [List.cons_append, Nat.add_assoc]
      exact this
end Go.Proofs.Ytkmmkoiibcdmeaa
