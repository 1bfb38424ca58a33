/- mbap.Cut, walked. -/
import Derived.Test.YtkmmkoiibcdmeaaRF
import Derived.Test.YtkmmkoiibcdmeaaF1
import Derived.Test.YtkmmkoiibcdmeaaQD0
namespace Go.Proofs.Ytkmmkoiibcdmeaa
open Go.RowKit Go.Shelf Go.Proofs.YtkmmkoiibcdmeaaW.PrintWords Go.Proofs.YtkmmkoiibcdmeaaW.PrintLast Go.Proofs.YtkmmkoiibcdmeaaW.PrintMore
attribute [local go_sem] Oper.semAt_some
set_option linter.unusedVariables false
set_option linter.unusedSimpArgs false
/-! ### what is cut, as data -/
def cutGo : Nat → List Int → Nat → List QD.S26 → List QD.S26 × Int × Int
  | 0, _, k, out => (out, (k : Int), 0)
  | f + 1, b, k, out => if (firstOf (b.drop k)).2.2.2.1 = 0 then (out, (k : Int), (firstOf (b.drop k)).2.2.2.2)
      else cutGo f b (k + (firstOf (b.drop k)).2.2.2.1.toNat) (out ++ [⟨(firstOf (b.drop k)).1, (firstOf (b.drop k)).2.1, (firstOf (b.drop k)).2.2.1⟩])
def cutOf (b : List Int) : List QD.S26 × Int × Int := cutGo (b.length + 1) b 0 []
theorem first_cases (l : List Int) : (firstOf l).2.2.2.1 = 0 ∨ (8 ≤ (firstOf l).2.2.2.1 ∧ (firstOf l).2.2.2.1 ≤ l.length) := by
  unfold firstOf
  repeat' split
  all_goals first
    | exact Or.inl rfl
    | exact Or.inr ⟨by show 8 ≤ 6 + n16 l; omega, by show 6 + n16 l ≤ l.length; omega⟩
theorem frames_any (A : Option Addr) (n c : Nat) (p : Option Addr) (w : World) : Calls Try.prog 21 #[.slice A n c, .pointer p] w fun e w' => e = .returned (.func (.func 22) #[] #[.pointer (some ⟨w.heap.size, 0, none⟩), .pointer (some ⟨w.heap.size + 1, 0, none⟩)]) ∧ w' = (w.alloc (.cells #[.slice A n c] 22)).alloc (.cells #[.pointer p] 46) := by
  go_enter Try.func21, Try.ntmps21
  go_wp2_with fail
  go_ret
  exact ⟨rfl, rfl⟩
/-- The blocks of a call of Cut: out, end, e, the captured b and e, the rounds' deferred calls, the record. -/
structure Bs where
  o : Nat
  f : Nat
  e : Nat
  b : Nat
  x : Nat
  d : Nat
  l : Nat
structure Bs.ok (B : Bs) (n : Nat) : Prop where
  h0 : n ≤ B.o
  h1 : B.o < B.f
  h2 : B.f < B.e
  h3 : B.e < B.b
  h4 : B.b < B.x
  h5 : B.x < B.d
  h6 : B.d < B.l
/-- What stands between two rounds. -/
structure In (B : Bs) (w : World) (A : Option Addr) (c m : Nat) (r : Loop) (ok : Nat → Prop) (at_ : Int) (xs : List QD.S26) (e : Int) (W : World) : Prop where
  out : ∃ v, W.heap[B.o]? = some (.cells #[v] 32 (0, 0)) ∧ Kd.S QD.k26 26 W w.heap.size ok v xs
  fin : W.heap[B.f]? = some (.cells #[.int .i64 at_] 3 (0, 0))
  err : W.heap[B.e]? = some (.cells #[.int .i64 e] 27 (0, 0))
  bx : W.heap[B.b]? = some (.cells #[.slice A m c] 22 (0, 0))
  ex : W.heap[B.x]? = some (.cells #[.pointer (some ⟨B.e, 0, none⟩)] 46 (0, 0))
  df : W.heap[B.d]? = some (.deferred (some []))
  lp : W.heap[B.l]? = some (.loop r)
  bel : Below w.heap.size w W
section
variable {B : Bs} {w : World} {A : Option Addr} {c m : Nat} {r : Loop} {ok ok' : Nat → Prop} {at_ e : Int} {xs : List QD.S26} {W W' : World}
theorem In.below (h : In B w A c m r ok at_ xs e W) (hb : Below W.heap.size W W') : In B w A c m r ok at_ xs e W' := by
  obtain ⟨v, h1, h2⟩ := h.out
  exact ⟨⟨v, blk_below h1 hb, Kd.S_below h2 hb⟩, blk_below h.fin hb, blk_below h.err hb, blk_below h.bx hb, blk_below h.ex hb, blk_below h.df hb, blk_below h.lp hb, below_then h.bel h.bel.size hb⟩
theorem In.mono (h : In B w A c m r ok at_ xs e W) (hk : ∀ k, ok k → ok' k) : In B w A c m r ok' at_ xs e W := by
  obtain ⟨v, h1, h2⟩ := h.out
  exact ⟨⟨v, h1, Kd.S_mono h2 hk⟩, h.fin, h.err, h.bx, h.ex, h.df, h.lp, h.bel⟩
/-- What was made apart from all that stood. -/
theorem In.elder {v : Value} (h : In B w A c m r ok at_ xs e W) (hbase : ∀ k, v.ownBlock = some k → W.heap.size ≤ k) (hb : Below W.heap.size W W') : In B w A c m r (fun k => ok k ∧ some k ≠ v.ownBlock) at_ xs e W' := by
  obtain ⟨v, h1, h2⟩ := h.out
  exact ⟨⟨v, blk_below h1 hb, Kd.S_elder' h2 hbase hb⟩, blk_below h.fin hb, blk_below h.err hb, blk_below h.bx hb, blk_below h.ex hb, blk_below h.df hb, blk_below h.lp hb, below_then h.bel h.bel.size hb⟩
/-- An error is told. -/
theorem In.tell (h : In B w A c m r ok at_ xs e W) (hB : B.ok w.heap.size) (e' : Int) : In B w A c m r ok at_ xs e' (W.setCell ⟨B.e, 0, none⟩ (.int .i64 e')) := by
  obtain ⟨v, h1, h2⟩ := h.out
  have g0 := hB.h0
  have g1 := hB.h1
  have g2 := hB.h2
  have g3 := hB.h3
  have g4 := hB.h4
  have g5 := hB.h5
  have g6 := hB.h6
  exact ⟨⟨v, blk_far h1 (p := ⟨B.e, 0, none⟩) (by show B.o ≠ B.e; omega) _, Kd.S_set h2 h.err (by decide) 0 _⟩, blk_far h.fin (p := ⟨B.e, 0, none⟩) (by show B.f ≠ B.e; omega) _, blk_put h.err 0 _ rfl, blk_far h.bx (p := ⟨B.e, 0, none⟩) (by show B.b ≠ B.e; omega) _, blk_far h.ex (p := ⟨B.e, 0, none⟩) (by show B.x ≠ B.e; omega) _,
    (Below.heap_setCell W ⟨B.e, 0, none⟩ _ B.d (by show B.d ≠ B.e; omega)).trans h.df, (Below.heap_setCell W ⟨B.e, 0, none⟩ _ B.l (by show B.l ≠ B.e; omega)).trans h.lp, h.bel.setCell (p := ⟨B.e, 0, none⟩) (by show w.heap.size ≤ B.e; omega) _⟩
end
theorem cutGo_end {f : Nat} {b : List Int} {k : Nat} {xs : List QD.S26} (hf : 0 < f) (h : (firstOf (b.drop k)).2.2.2.1 = 0) : cutGo f b k xs = (xs, (k : Int), (firstOf (b.drop k)).2.2.2.2) := by
  obtain ⟨f, rfl⟩ : ∃ g, f = g + 1 := ⟨f - 1, by omega⟩
  rw [cutGo, if_pos h]
theorem cutGo_on {f : Nat} {b : List Int} {k : Nat} {xs : List QD.S26} (hf : 0 < f) (h : ¬ (firstOf (b.drop k)).2.2.2.1 = 0) : cutGo f b k xs = cutGo (f - 1) b (k + (firstOf (b.drop k)).2.2.2.1.toNat) (xs ++ [⟨(firstOf (b.drop k)).1, (firstOf (b.drop k)).2.1, (firstOf (b.drop k)).2.2.1⟩]) := by
  obtain ⟨f, rfl⟩ : ∃ g, f = g + 1 := ⟨f - 1, by omega⟩
  rw [cutGo, if_neg h]; rfl
set_option maxRecDepth 100000 in
set_option maxHeartbeats 4000000 in
theorem iter_any (B : Bs) (w : World) (hB : B.ok w.heap.size) (A : Option Addr) (c : Nat) (b : List Int) (hc : b.length ≤ c) (hlen : b.length ≤ 1000000) (hby : Bytes b) (r : Loop) (W : World)
    (hY : ∀ (W : World) (at_ at' e : Int) (xs : List QD.S26) (x : QD.S26) (Ap : Option Addr) (cp : Nat), In B w A c b.length r (fun k => True ∧ some k ≠ (Value.slice Ap x.f2.length cp).ownBlock) at_ xs e W → Kd.R (Kd.int .u8) 5 W w.heap.size (fun _ => True) (.slice Ap x.f2.length cp) x.f2 → xs.length ≤ 1000000 →
      YieldAt Fence.wide 7 Try.prog B.l #[.int .i64 at', .agg #[.int .u16 x.f0, .int .u8 x.f1, .slice Ap x.f2.length cp]] W fun e' W' => e' = .returned (.bool true) ∧ In B w A c b.length r (fun _ => True) at' (xs ++ [x]) e W')
    (hr : Kd.C (Kd.int .u8) w A b.length b) (h0 : In B w A c b.length r (fun _ => True) 0 [] 0 W) :
    CallsIn Fence.wide 8 Try.prog 22 #[.func (.yield B.l) #[] #[], .pointer (some ⟨B.b, 0, none⟩), .pointer (some ⟨B.x, 0, none⟩)] W fun e W' => (∃ v, e = .returned v) ∧ In B w A c b.length r (fun _ => True) (cutOf b).2.1 (cutOf b).1 (cutOf b).2.2 W' := by
  have HC := Lib.hid hr
  have HY := Lib.hid hY
  have HB := Lib.hid hB
  have HBY := Lib.hid hby
  have H0 := Lib.hid h0
  clear hr hY hB hby h0
  refine callsIn_of_wp Try.func22 rfl trivial ?_ rfl
  simp only [Try.ntmps22, List.size_toArray, List.length_cons, List.length_nil, Nat.reduceAdd, Nat.reduceSub, Array.replicate_succ, Array.replicate_zero, List.push_toArray, List.append_toArray, List.nil_append, List.cons_append]
  gi_wp2
  gi_loopw [4] (fun v4 wr => ∃ (k : Nat) (xs : List QD.S26) (e : Int), v4 = .int .i64 (k : Int) ∧ Hid (k ≤ b.length ∧ xs.length * 8 ≤ k ∧ ∃ f, b.length < f + k ∧ cutGo f b k xs = cutOf b) ∧ Hid (In B w A c b.length r (fun _ => True) (k : Int) xs e wr)) (fun v4 wr => b.length - (intOf v4).toNat)
  case atStart => exact ⟨0, [], 0, rfl, Lib.hid ⟨by omega, by simp, b.length + 1, by omega, rfl⟩, H0⟩
  case round =>
    clear H0
    obtain ⟨k, xs, e0, rfl, HA, HI⟩ := hrel
    obtain ⟨i0, hi0, _, hsz0, _⟩ := info_parts infob
    have hkl : k ≤ b.length := HA.out.1
    obtain ⟨A7, hcut, hA7, hC7⟩ := print_drop_of (P := Try.prog) (Value.int .u8) 0 22 5 .i64 Try.underlying22 hi0 hsz0 A c b (k : Int) (by omega) (by omega) hc
    simp only [Int.toNat_natCast] at hcut hA7 hC7
    have HRD := Lib.hid (Kd.C_of_reads (h1 := fun _ => rfl) (hA7 _ (Kd.reads_of_C (Kd.C_below HC.out HI.out.bel))))
    have hcb : wr.cell? ⟨B.b, 0, none⟩ = some (.slice A b.length c) := (blk_cell HI.out.bx 0).trans rfl
    have hF := first_any A7 (c - k) (b.drop k) wr (by rw [List.length_drop]; omega) (fun x hx => HBY.out x (List.mem_of_mem_drop hx)) HRD.out hC7
    rcases hx : firstOf (b.drop k) with ⟨fid, u, p, n, e1⟩
    have hFC := first_cases (b.drop k)
    obtain ⟨f, hf, hgo⟩ := HA.out.2.2
    have hfp : 0 < f := by omega
    rw [hx] at hF hFC
    rw [List.length_drop] at hF hFC
    simp only at hFC
    have HF := Lib.hid hF
    have hkk : (k : Int) ≤ (b.length : Int) := by omega
    have he := HI.out.err
    have hx0 := HI.out.ex
    by_cases hn : n = 0
    · have hce := cutGo_end (b := b) (k := k) (xs := xs) hfp (by rw [hx]; exact hn)
      rw [hgo, hx] at hce
      have HCE := Lib.hid hce
      subst hn
      clear hce hA7 hi0 hsz0 hC7 hF hFC hx hf hgo hfp he hx0
      gi_wp2
      refine ⟨trivial, ?_⟩
      refine (callsIn_wide.2 HF.out).mono ?_
      rintro e w5 ⟨v5, rfl, ho, hb⟩
      obtain ⟨Ap, cp, rfl⟩ := Kd.R_slice ho
      have HI5 := Lib.hid (HI.out.below hb)
      have hcx : ∀ o : Obj, (w5.alloc o).cell? ⟨B.x, 0, none⟩ = some (.pointer (some ⟨B.e, 0, none⟩)) := fun o => (blk_cell (blk_alloc HI5.out.ex o) 0).trans rfl
      have hce0 : ∀ o : Obj, (w5.alloc o).cell? ⟨B.e, 0, none⟩ = some (.int .i64 e0) := fun o => (blk_cell (blk_alloc HI5.out.err o) 0).trans rfl
      have hcf : ∀ o : Obj, (w5.alloc o).frozen? ⟨B.e, 0, none⟩ = false := fun o => blk_frozen (blk_alloc HI5.out.err o) 0
      clear ho hb hcut hcb
      gi_wp2
      refine ⟨fun _ h => (by cases h), ?_⟩
      gi_wp2
      refine bodyPost_ret (results_none rfl _ _ _) rfl ?_
      rw [HCE.out]
      exact ⟨⟨_, rfl⟩, (HI5.out.below (below_alloc (Below.refl _ _) _)).tell HB.out e1⟩
    · have hce := cutGo_on (b := b) (k := k) (xs := xs) hfp (by rw [hx]; exact hn)
      rw [hgo, hx] at hce
      simp only at hce
      have h8 : 8 ≤ n ∧ n ≤ ((b.length - k : Nat) : Int) := hFC.resolve_left hn
      obtain ⟨m, rfl⟩ : ∃ m : Nat, n = (m : Int) := Int.eq_ofNat_of_zero_le (by omega)
      rw [Int.toNat_natCast] at hce
      have hm : 8 ≤ m ∧ k + m ≤ b.length := by omega
      have HM := Lib.hid hm
      have HCE : Hid (b.length < (f - 1) + (k + m) ∧ cutGo (f - 1) b (k + m) (xs ++ [⟨fid, u, p⟩]) = cutOf b) := Lib.hid ⟨by omega, hce.symm⟩
      have hnf : ((m : Int) == 0) = false := beq_eq_false_iff_ne.mpr hn
      have hmb : (k : Int) + (m : Int) ≤ 1000000 := by omega
      clear hce hA7 hi0 hsz0 hC7 hF hFC hx hf hgo hfp he hx0 h8 hn hm
      gi_wp2
      refine ⟨trivial, ?_⟩
      refine (callsIn_wide.2 HF.out).mono ?_
      rintro e w5 ⟨v5, rfl, ho, hb⟩
      obtain ⟨Ap, cp, rfl⟩ := Kd.R_slice ho
      have HI5 := Lib.hid (HI.out.elder (Kd.R_base ho) hb)
      have HR5 := Lib.hid (Kd.R_lower ho HI.out.bel.size)
      have hcx : ∀ o : Obj, (w5.alloc o).cell? ⟨B.x, 0, none⟩ = some (.pointer (some ⟨B.e, 0, none⟩)) := fun o => (blk_cell (blk_alloc HI5.out.ex o) 0).trans rfl
      have hce0 : ∀ o : Obj, (w5.alloc o).cell? ⟨B.e, 0, none⟩ = some (.int .i64 e0) := fun o => (blk_cell (blk_alloc HI5.out.err o) 0).trans rfl
      have hcf : ∀ o : Obj, (w5.alloc o).frozen? ⟨B.e, 0, none⟩ = false := fun o => blk_frozen (blk_alloc HI5.out.err o) 0
      have HI6 := Lib.hid ((HI5.out.below (below_alloc (Below.refl _ _) (.cells #[.int .u16 fid, .int .u8 u, .slice Ap p.length cp] 26))).tell HB.out e1)
      have HR6 : Hid (Kd.R (Kd.int .u8) 5 ((w5.alloc (.cells #[.int .u16 fid, .int .u8 u, .slice Ap p.length cp] 26)).setCell ⟨B.e, 0, none⟩ (.int .i64 e1)) w.heap.size (fun _ => True) (.slice Ap p.length cp) p) := Lib.hid (Kd.R_set (Kd.R_alloc HR5.out _) (blk_alloc HI5.out.err _) (by decide) 0 _)
      have hbx := blk_far (blk_new w5 (.cells #[.int .u16 fid, .int .u8 u, .slice Ap p.length cp] 26)) (p := ⟨B.e, 0, none⟩) (by show w5.heap.size ≠ B.e; have := blk_lt HI5.out.err; omega) (.int .i64 e1)
      have hq0 := (blk_cell hbx 0).trans (show _ = some (Value.int .u16 fid) from rfl)
      have hq1 := (blk_cell hbx 1).trans (show _ = some (Value.int .u8 u) from rfl)
      have hq2 := (blk_cell hbx 2).trans (show _ = some (Value.slice Ap p.length cp) from rfl)
      clear hbx
      have hYY := HY.out _ (k : Int) ((k : Int) + (m : Int)) e1 xs ⟨fid, u, p⟩ Ap cp HI6.out HR6.out (by have := HA.out; omega)
      obtain ⟨fn, tmps, assign, body, hy, hRR⟩ := hYY
      simp only at hy
      have HRR := Lib.hid hRR
      clear ho hb hcut hcb hRR
      gi_wp2
      refine HRR.out.mono ?_
      rintro e W3 ⟨rfl, hI3⟩
      have HI3 := Lib.hid hI3
      clear hI3
      gi_wp2
      go_roundw
      case rel => exact ⟨k + m, _, _, by go_num, Lib.hid ⟨by have := HM.out; omega, by rw [List.length_append]; have := HM.out; have := HA.out; simp; omega, f - 1, HCE.out⟩, HI3⟩
      case measure => have := HM.out; simp [intOf]; omega
end Go.Proofs.Ytkmmkoiibcdmeaa
