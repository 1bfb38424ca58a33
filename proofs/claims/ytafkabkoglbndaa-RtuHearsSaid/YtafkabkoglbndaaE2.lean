/- The reference's ear, by hand. -/
import Derived.Test.YtafkabkoglbndaaPI1
import Derived.Test.YtafkabkoglbndaaQD1
namespace Go.Proofs.Ytafkabkoglbndaa
open Go.RowKit Go.Proofs.YtafkabkoglbndaaW.PrintWords Go.Proofs.YtafkabkoglbndaaW.PrintLast Go.Proofs.YtafkabkoglbndaaW.PrintMore
attribute [local go_sem] max2_int min2_int max_two min_two
set_option linter.unusedVariables false
set_option linter.unusedSimpArgs false
structure IsRef (w : World) (g gx : Nat) (xs : List Int) : Prop where
  ex : ∃ A c, w.heap[g]? = some (.cells #[.slice A xs.length c] 52 (0, 0)) ∧ xs.length ≤ c ∧ Kd.C (Kd.int .u8) w A xs.length xs ∧ (xs.length = 0 ∨ ∀ ad, A = some ad → ad.block ≠ gx)
  ne : g ≠ gx
theorem not_ref {w : World} {g : Nat} {A : Option Addr} {n c : Nat} (hg : w.heap[g]? = some (.cells #[.slice A n c] 52 (0, 0))) {ad : Addr} {k : IntKind} {u : Int} (h : w.cell? ad = some (.int k u)) : ad.block ≠ g := by
  rintro rfl
  unfold World.cell? at h
  rw [hg] at h
  simp only at h
  split at h
  · cases h
  · match hoff : ad.off, h with
    | 0, h => simp at h
    | k + 1, h => simp at h
theorem C_kz {w w' : World} {g : Nat} {B : Option Addr} {l : List Int} (h : Kd.C (Kd.int .u8) w B l.length l) (hk : Kp w w' g) (hA : l.length = 0 ∨ ∀ ad, B = some ad → ad.block ≠ g) : Kd.C (Kd.int .u8) w' B l.length l := by
  rcases hA with hl | hA
  · exact ⟨h.1, h.2.1, fun hn => absurd hn (by omega)⟩
  · exact C_kp h hk hA
theorem C_kr {w w' : World} {g : Nat} {A B : Option Addr} {n c : Nat} {l : List Int} (hg : w.heap[g]? = some (.cells #[.slice A n c] 52 (0, 0))) (h : Kd.C (Kd.int .u8) w B l.length l) (hk : Kp w w' g) : Kd.C (Kd.int .u8) w' B l.length l := by
  refine C_kz h hk ?_
  by_cases hl : l.length = 0
  · exact Or.inl hl
  · refine Or.inr (fun ad e => ?_)
    obtain ⟨ad', e2, hx⟩ := Kd.at_int h 0 (by decide) (by omega)
    rw [e] at e2
    injection e2 with e2
    subst e2
    have e3 : ad.add (0 : Int).toNat = ad := by unfold Addr.add; simp
    rw [e3] at hx
    exact not_ref hg hx
theorem IsRef.below {w w' : World} {g gx : Nat} {xs : List Int} (h : IsRef w g gx xs) (hb : Below w.heap.size w w') : IsRef w' g gx xs := by
  obtain ⟨A, c, h1, h2, h3, h4⟩ := h.ex
  exact ⟨⟨A, c, blk_below h1 hb, h2, Kd.C_below h3 hb, h4⟩, h.ne⟩
theorem IsRef.kx {w w' : World} {g gx : Nat} {xs : List Int} (h : IsRef w g gx xs) (hk : Kp w w' gx) : IsRef w' g gx xs := by
  obtain ⟨A, c, h1, h2, h3, h4⟩ := h.ex
  exact ⟨⟨A, c, (hk.block g (blk_lt h1) h.ne).trans h1, h2, C_kz h3 hk h4, h4⟩, h.ne⟩
theorem IsEar.kr {w w' : World} {g gx : Nat} {row : List Int} {m : Nat} (h : IsEar w gx row m) (hk : Kp w w' g) (ne : g ≠ gx) : IsEar w' gx row m := ⟨(hk.block gx (blk_lt h.blk) (Ne.symm ne)).trans h.blk, h.len, h.byt, h.most⟩
theorem zero52 (w : World) : (zeroValue 52).run Try.prog w = .ok (.agg #[.slice none 0 0]) w := by kernel_rfl
theorem rnew_any (w : World) : Calls Try.prog 15 #[] w fun e w' => ∃ g, e = .returned (.pointer (some ⟨g, 0, none⟩)) ∧ w.heap.size ≤ g ∧ w'.heap[g]? = some (.cells #[.slice none 0 0] 52 (0, 0)) ∧ Below w.heap.size w w' := by
  have hbd := zero52
  go_enter Try.func15, Try.ntmps15
  go_wp2_with fail
  go_ret
  exact ⟨_, rfl, Nat.le_refl _, blk_new _ _, below_alloc (Below.refl _ _) _⟩
theorem rmany_any (g gx : Nat) (xs : List Int) (w : World) (h : IsRef w g gx xs) : Calls Try.prog 22 #[.pointer (some ⟨g, 0, none⟩)] w fun e w' => e = .returned (.int .i64 ((min xs.length 257 : Nat) : Int)) ∧ w = w' := by
  obtain ⟨A, c, hg, _, _, _⟩ := h.ex
  have hc0 : w.cell? ⟨g, 0, none⟩ = some (.slice A xs.length c) := (blk_cell hg 0).trans rfl
  clear hg h
  by_cases h7 : (257 : Int) < xs.length
  · have HE := Lib.hid (show ((min xs.length 257 : Nat) : Int) = 257 by omega)
    go_enter Try.func22, Try.ntmps22
    go_wp2_with fail
    go_ret
    exact ⟨by rw [HE.out]; rfl, rfl⟩
  · have HE := Lib.hid (show ((min xs.length 257 : Nat) : Int) = (xs.length : Int) by omega)
    go_enter Try.func22, Try.ntmps22
    go_wp2_with fail
    go_ret
    exact ⟨by rw [HE.out]; rfl, rfl⟩
set_option maxRecDepth 100000 in
set_option maxHeartbeats 1000000 in
theorem rsil_any (g gx : Nat) (xs : List Int) (w : World) (hb : Bytes xs) (h : IsRef w g gx xs) (u : Int) (p : List Int) (e0 : Int) (o : Bool) (hx : silOf xs = (u, p, e0, o)) :
    Calls Try.prog 18 #[.pointer (some ⟨g, 0, none⟩)] w fun e w' => ∃ B d, e = .returned (.tuple #[.int .u8 u, .slice B p.length d, .int .i64 e0, .bool o]) ∧ p.length ≤ d ∧ Kd.C (Kd.int .u8) w' B p.length p ∧ IsRef w' g gx [] ∧ Kp w w' g := by
  obtain ⟨A, c, hg, hc, hC, hA⟩ := h.ex
  have hc0 : w.cell? ⟨g, 0, none⟩ = some (.slice A xs.length c) := (blk_cell hg 0).trans rfl
  by_cases h0 : xs = []
  · subst h0
    have e : silOf [] = (0, [], 0, false) := rfl
    rw [e] at hx
    simp only [Prod.mk.injEq] at hx
    obtain ⟨rfl, rfl, rfl, rfl⟩ := hx
    have HI := Lib.hid h
    clear hg h hC hA hc e hb
    go_enter Try.func18, Try.ntmps18
    go_wp2_with fail
    refine bodyPost_ret (v := .tuple #[.int .u8 0, .slice none 0 0, .int .i64 0, .bool false]) (by simp [results, Try.f18, go_sem]) rfl ?_
    exact ⟨none, 0, rfl, Nat.le_refl _, Kd.C_nil _ _, HI.out, Kp.refl _ _⟩
  · have hl : xs.length ≠ 0 := fun e => h0 (List.length_eq_zero_iff.mp e)
    have hG := rget_any A c xs w hb hC hc
    have e : silOf xs = ((getOf xs).1, (getOf xs).2.1, (getOf xs).2.2, true) := by unfold silOf; rw [if_neg h0]
    rw [e] at hx
    simp only [Prod.mk.injEq] at hx
    obtain ⟨rfl, rfl, rfl, rfl⟩ := hx
    obtain ⟨r, hr⟩ : ∃ r, getOf xs = r := ⟨_, rfl⟩
    rw [hr] at hG ⊢
    have hz : ((xs.length : Int) == 0) = false := beq_eq_false_iff_ne.mpr (by omega)
    have HG := Lib.hid hG
    have HBK := Lib.hid hg
    have hne := h.ne
    clear hG hg hC hA h hb e hr h0
    go_enter Try.func18, Try.ntmps18
    go_wp2_with fail
    refine HG.out.mono ?_
    rintro e w1 ⟨B, d, rfl, hd, hB, hb⟩
    have hb1 := blk_below HBK.out hb
    have hf := blk_frozen hb1 0
    have hc1 : w1.cell? ⟨g, 0, none⟩ = some (.slice A xs.length c) := (blk_cell hb1 0).trans rfl
    have HC := Lib.hid hB
    have HB := Lib.hid hb
    have HB1 := Lib.hid hb1
    clear hB hb hb1
    go_wp2_with fail
    refine bodyPost_ret (v := .tuple #[.int .u8 r.1, .slice B r.2.1.length d, .int .i64 r.2.2, .bool true]) (by simp [results, Try.f18, go_sem]) rfl ?_
    have hk : Kp w1 (w1.setCell ⟨g, 0, none⟩ (.slice none 0 0)) g := (Kp.refl w1 g).set 0 _
    exact ⟨B, d, rfl, hd, C_kr HB1.out HC.out hk, ⟨⟨none, 0, blk_put HB1.out 0 _ rfl, Nat.le_refl _, Kd.C_nil _ _, Or.inl rfl⟩, hne⟩, (Kp.of_below HB.out g).trans hk⟩
end Go.Proofs.Ytafkabkoglbndaa
