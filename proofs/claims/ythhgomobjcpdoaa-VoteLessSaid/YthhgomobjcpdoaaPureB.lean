/- The plain laws VoteMore and VoteTurns. -/
import Derived.Test.YthhgomobjcpdoaaPureA
import Derived.Test.YthhgomobjcpdoaaQA3
import Derived.Test.YthhgomobjcpdoaaQA4
namespace Go.Proofs.Ythhgomobjcpdoaa.Pure
open Go.RowKit Go.Proofs.Ythhgomobjcpdoaa.QA Go.Proofs.YthhgomobjcpdoaaW.PrintWords Go.Proofs.YthhgomobjcpdoaaW.PrintLast

theorem wf16 {n : Int} (h : (Lit.int .u16 n).wf = true) : 0 ≤ n ∧ n ≤ 65535 := by
  simpa [Lit.wf, IntKind.min, IntKind.max, IntKind.signed, IntKind.bits] using h
theorem wf64 {n : Int} (h : (Lit.int .i64 n).wf = true) : -9223372036854775808 ≤ n ∧ n ≤ 9223372036854775807 := by
  simpa [Lit.wf, IntKind.min, IntKind.max, IntKind.signed, IntKind.bits] using h
theorem tmod_range {a : Int} {n : Nat} (h0 : 0 ≤ a) (hn : 0 < n) : 0 ≤ a.tmod (n : Int) ∧ a.tmod (n : Int) < (n : Int) := by
  rw [Int.tmod_eq_emod_of_nonneg h0]
  exact ⟨Int.emod_nonneg _ (by omega), Int.emod_lt_of_pos _ (by omega)⟩

theorem tr_mono {n : Int} {y y' v : Nat} (h : y ≤ y') (ht : tr n y v = true) : tr n y' v = true := by
  unfold tr at *; simp only [decide_eq_true_eq] at *; omega
theorem tr_less {n : Int} {y v : Nat} (_hn : n > 1) (ht : tr n y v = true) : tr (n - 1) y v = true := by
  unfold tr at *; simp only [decide_eq_true_eq] at *; omega

theorem b2n_le (b : Bool) : b2n b ≤ 1 := by unfold b2n; split <;> omega

/-- From the second step on: what stands at the place k is in the first row as it came, in the second one trips, or is not known. -/
theorem more_j1 (n : Int) (l x : List S29) (j : Int) (hl : l.length ≤ 5000) (hx : x.length ≤ 5000) (hj0 : 0 ≤ j) (hj : j < (l.length : Int)) (hn : -9223372036854775808 ≤ n ∧ n ≤ 9223372036854775807)
    (hV : V x = V l) (hY : Y l ≤ Y x) (hby : (rd_T29 l j).f2 = true → Y x = Y l) (k : Nat) : watchkeeperlaw13_VoteMore.j1 (k + 3) n l true j x = some true := by
  have h : l.length ≤ 1000000 := by omega
  have h' : x.length ≤ 1000000 := by omega
  -- the last step
  have e3 : ∀ q, watchkeeperlaw13_VoteMore.j3 (q + 1) n l true j false = some true := by
    intro q
    simp only [watchkeeperlaw13_VoteMore.j3]
    have hjn : j.toNat < l.length := by omega
    have hs : (l.set j.toNat (⟨false, false, true⟩ : S29)).length ≤ 1000000 := by rw [List.length_set]; exact h
    have hd : (l.take j.toNat ++ l.drop (j + 1).toNat).length ≤ 1000000 := by rw [List.length_append, List.length_take, List.length_drop]; omega
    have ty : Y (l.set j.toNat (⟨false, false, true⟩ : S29)) = Y (l.take j.toNat ++ l.drop (j + 1).toNat) := by
      unfold Y; rw [cnt_set _ _ _ _ hjn, cnt_append, show (j + 1).toNat = j.toNat + 1 by omega]; simp [b2n, yesS]
    have tv : V (l.set j.toNat (⟨false, false, true⟩ : S29)) = V (l.take j.toNat ++ l.drop (j + 1).toNat) := by
      unfold V; rw [cnt_set _ _ _ _ hjn, cnt_append, show (j + 1).toNat = j.toNat + 1 by omega]; simp [b2n, votesS]
    have tl : V (l.set j.toNat (⟨false, false, true⟩ : S29)) ≠ (l.set j.toNat (⟨false, false, true⟩ : S29)).length := by
      rw [tv]
      have := V_le (l.take j.toNat ++ l.drop (j + 1).toNat)
      rw [List.length_append, List.length_take, List.length_drop] at this
      rw [List.length_set]; omega
    simp only [Option.bind_some, List.nil_append, List.length_nil, Nat.zero_add]
    rw [if_neg (by decide), if_pos (by omega), if_pos hj0, if_pos hj, if_pos (by omega), if_pos (by rw [List.length_take]; omega), wrap_id (n := j + 1) (by omega), if_pos (by omega), if_pos (by omega),
      if_pos (by rw [List.length_take, List.length_drop]; omega), if_pos trivial, trips_eq _ _ hs, trips_eq _ _ hd, yes_eq _ hs, yes_eq _ hd, need_eq _ _ hs, need_eq _ _ hd, healthy_eq _ _ hs, ty, tv]
    simp only [Option.bind_some]
    rw [tv, List.length_set] at tl
    simp [tl]
  -- one fewer
  have e2 : ∀ q, watchkeeperlaw13_VoteMore.j2 (q + 2) n l true j false = some true := by
    intro q
    rw [show q + 2 = (q + 1) + 1 from rfl]
    generalize hq : q + 1 = q'
    simp only [watchkeeperlaw13_VoteMore.j2]
    subst hq
    rw [if_neg (by decide)]
    by_cases h1 : n > 1
    · rw [if_pos h1, trips_eq n l h]
      simp only [Option.bind_some]
      by_cases ht : tr n (Y l) (V l) = true
      · rw [if_pos ht, wrap_id (n := n - 1) (by omega), trips_eq _ l h]
        simp only [Option.bind_some]
        rw [tr_less h1 ht]
        exact e3 q
      · rw [if_neg ht]; exact e3 q
    · rw [if_neg h1]; exact e3 q
  have e2' := e2 k
  rw [show k + 3 = (k + 2) + 1 from rfl]
  generalize hq : k + 2 = q' at e2'
  simp only [watchkeeperlaw13_VoteMore.j1]
  rw [trips_eq n l h, trips_eq n x h', hV]
  simp only [Option.bind_some]
  by_cases ht : tr n (Y l) (V l) = true
  · have ht' : tr n (Y x) (V l) = true := tr_mono hY ht
    rw [if_pos ht, if_pos ht', if_pos hj0, if_pos hj]
    by_cases hb : (rd_T29 l j).f2 = true
    · rw [if_pos hb, ht, ht']; exact e2'
    · rw [if_neg hb]; exact e2'
  · rw [if_neg ht, if_pos hj0, if_pos hj]
    by_cases hb : (rd_T29 l j).f2 = true
    · rw [if_pos hb, hby hb]; simpa using e2'
    · rw [if_neg hb]; exact e2'

theorem set_counts (l : List S29) (j : Int) (x : S29) (h0 : 0 ≤ j) (hj : j < (l.length : Int)) (hv : vot x = vot (rd_T29 l j)) (hy : yes (rd_T29 l j) = true → yes x = true) (hb : (rd_T29 l j).f2 = true → x.f2 = true) :
    V (l.set j.toNat x) = V l ∧ Y l ≤ Y (l.set j.toNat x) ∧ ((rd_T29 l j).f2 = true → Y (l.set j.toNat x) = Y l) := by
  have hjn : j.toNat < l.length := by omega
  have e := rd_at h0 hjn
  rw [e] at hv hy hb ⊢
  have hys : b2n (yesS l[j.toNat].f0 l[j.toNat].f1 l[j.toNat].f2) ≤ b2n (yesS x.f0 x.f1 x.f2) := by
    show b2n (yes l[j.toNat]) ≤ b2n (yes x)
    unfold b2n
    cases h1 : yes l[j.toNat]
    · simp
    · simp [hy h1]
  have hvs : b2n (votesS x.f0 x.f1 x.f2) = b2n (votesS l[j.toNat].f0 l[j.toNat].f1 l[j.toNat].f2) := by
    show b2n (vot x) = b2n (vot l[j.toNat]); rw [hv]
  unfold V Y
  rw [cnt_set _ _ _ _ hjn, cnt_set _ _ _ _ hjn, cnt_split votesS l j.toNat hjn, cnt_split yesS l j.toNat hjn]
  refine ⟨by omega, by omega, fun h2 => ?_⟩
  have a1 : yesS x.f0 x.f1 x.f2 = false := by unfold yesS; rw [hb h2]; rfl
  have a2 : yesS l[j.toNat].f0 l[j.toNat].f1 l[j.toNat].f2 = false := by unfold yesS; rw [h2]; rfl
  rw [a1, a2]

theorem VoteMore (a0 : Int) (l1 : List S29) (a2 : Int) (a3 : Bool) (w0 : (Lit.int .i64 a0).wf = true) (_w1 : l1.length ≤ maxLen ∧ ∀ x0 ∈ l1, (True) ∧ (True) ∧ (True)) (w2 : (Lit.int .u16 a2).wf = true) : ∃ k, watchkeeperlaw13_VoteMore.f k a0 l1 a2 a3 = some true := by
  have h0 := wf64 w0
  have h2 := wf16 w2
  refine ⟨4, ?_⟩
  unfold watchkeeperlaw13_VoteMore.f
  rw [head_true]
  simp only [Option.bind_some]
  by_cases hl : (l1.length : Int) > 5000
  · rw [if_pos hl]; simp [watchkeeperlaw13_VoteMore.j0]
  · rw [if_neg hl]
    rw [show (4 : Nat) = (0 + 3) + 1 from rfl]
    have hm1 := more_j1 a0 l1
    generalize hq : (0 + 3 : Nat) = q at hm1
    simp only [watchkeeperlaw13_VoteMore.j0]
    subst hq
    by_cases hz : l1.length = 0
    · rw [if_pos (by simp [hz])]
    · rw [if_neg (by simp; exact fun e => hz (by rw [e]; rfl)), if_neg (by omega)]
      simp only [Option.bind_some, List.nil_append, List.length_nil, Nat.zero_add]
      have hj := tmod_range (a := wrap64 a2) (n := l1.length) (by rw [wrap_id (by omega)]; omega) (by omega)
      rw [if_pos (by omega)]
      cases a3 with
      | true =>
        rw [if_pos rfl, if_pos hj.1, if_pos hj.2]
        obtain ⟨c1, c2, c3⟩ := set_counts l1 ((wrap64 a2).tmod l1.length) ⟨(rd_T29 l1 ((wrap64 a2).tmod l1.length)).f0, true, (rd_T29 l1 ((wrap64 a2).tmod l1.length)).f2⟩ hj.1 hj.2 rfl
          (by simp only [yes, yesS]; cases (rd_T29 l1 ((wrap64 a2).tmod l1.length)).f2 <;> simp) (fun h => h)
        exact more_j1 a0 l1 _ _ (by omega) (by rw [List.length_set]; omega) hj.1 hj.2 h0 c1 c2 c3 0
      | false =>
        rw [if_neg (by decide), if_pos hj.1, if_pos hj.2]
        obtain ⟨c1, c2, c3⟩ := set_counts l1 ((wrap64 a2).tmod l1.length) ⟨true, (rd_T29 l1 ((wrap64 a2).tmod l1.length)).f1, (rd_T29 l1 ((wrap64 a2).tmod l1.length)).f2⟩ hj.1 hj.2 rfl
          (by simp only [yes, yesS]; cases (rd_T29 l1 ((wrap64 a2).tmod l1.length)).f2 <;> simp) (fun h => h)
        exact more_j1 a0 l1 _ _ (by omega) (by rw [List.length_set]; omega) hj.1 hj.2 h0 c1 c2 c3 0

theorem turns_loop (n : Int) (l : List S29) (hl : l.length ≤ 5000) (d : Nat) : ∀ (k : Nat) (x : List S29) (i : Int), x.length = l.length → Y x = Y l → V x = V l → 0 ≤ i → i ≤ l.length + 1 → (l.length : Int) + 2 - i ≤ d → d < k →
    watchkeeperlaw13_VoteTurns.l0 k n l true x i = some true := by
  induction d with
  | zero => intro k x i _ _ _ h0 h1 hd; omega
  | succ d ih =>
    intro k x i hxl hY hV h0 h1 hd hk
    obtain ⟨k, rfl⟩ : ∃ m, k = m + 1 := ⟨k - 1, by omega⟩
    have h : l.length ≤ 1000000 := by omega
    have h' : x.length ≤ 1000000 := by omega
    simp only [watchkeeperlaw13_VoteTurns.l0]
    rw [wrap_id (n := i + 1) (by omega), wrap_id (n := i + 2) (by omega)]
    by_cases hlt : i + 1 < (x.length : Int)
    · rw [if_pos hlt, if_pos h0, if_pos (by omega), if_pos (by omega)]
      have hi : i.toNat < x.length := by omega
      have hi1 : (i + 1).toNat < x.length := by omega
      have ea := rd_at h0 hi
      have eb := rd_at (l := x) (i := i + 1) (by omega) hi1
      have hc : ∀ so, cntS so ((x.set i.toNat (⟨(rd_T29 x (i + 1)).f0, (rd_T29 x (i + 1)).f1, (rd_T29 x (i + 1)).f2⟩ : S29)).set (i + 1).toNat (⟨(rd_T29 x i).f0, (rd_T29 x i).f1, (rd_T29 x i).f2⟩ : S29)) = cntS so x := by
        intro so
        have e1 : (i + 1).toNat = i.toNat + 1 := by omega
        rw [ea, eb]
        have hs := cnt_split so x i.toNat hi
        have hs2 : cntS so (x.drop (i.toNat + 1)) = b2n (so x[(i + 1).toNat].f0 x[(i + 1).toNat].f1 x[(i + 1).toNat].f2) + cntS so (x.drop (i.toNat + 2)) := by
          rw [List.drop_eq_getElem_cons (by omega), cnt_cons]
          congr 3 <;> simp only [e1]
        have ht : cntS so (x.set i.toNat (⟨x[(i + 1).toNat].f0, x[(i + 1).toNat].f1, x[(i + 1).toNat].f2⟩ : S29)) = cntS so (x.take i.toNat) + b2n (so x[(i + 1).toNat].f0 x[(i + 1).toNat].f1 x[(i + 1).toNat].f2) + cntS so (x.drop (i.toNat + 1)) := cnt_set _ _ _ _ hi
        generalize hz : x.set i.toNat (⟨x[(i + 1).toNat].f0, x[(i + 1).toNat].f1, x[(i + 1).toNat].f2⟩ : S29) = z at ht ⊢
        have hzl : z.length = x.length := by rw [← hz, List.length_set]
        have hz1 : z[(i + 1).toNat]'(by omega) = x[(i + 1).toNat] := by subst hz; rw [List.getElem_set_ne (by omega)]
        have hzs := cnt_split so z (i + 1).toNat (by omega)
        rw [cnt_set _ _ _ _ (by omega)]
        rw [hz1] at hzs
        dsimp only at hzs hs2 ht hs ⊢
        omega
      exact ih k _ (i + 2) (by rw [List.length_set, List.length_set, hxl]) (by unfold Y at *; rw [hc, hY]) (by unfold V at *; rw [hc, hV]) (by omega) (by omega) (by omega) (by omega)
    · rw [if_neg hlt, if_pos trivial, trips_eq _ _ h', trips_eq _ _ h, yes_eq _ h', yes_eq _ h, need_eq _ _ h', need_eq _ _ h, healthy_eq _ _ h', healthy_eq _ _ h, hY, hV, hxl]
      simp

theorem VoteTurns (a0 : Int) (l1 : List S29) (a2 : Int) (_w0 : (Lit.int .i64 a0).wf = true) (_w1 : l1.length ≤ maxLen ∧ ∀ x0 ∈ l1, (True) ∧ (True) ∧ (True)) (w2 : (Lit.int .u16 a2).wf = true) : ∃ k, watchkeeperlaw13_VoteTurns.f k a0 l1 a2 = some true := by
  have h2 := wf16 w2
  refine ⟨(l1.length + 3) + 1, ?_⟩
  unfold watchkeeperlaw13_VoteTurns.f
  rw [head_true]
  simp only [Option.bind_some]
  by_cases hl : (l1.length : Int) > 5000
  · rw [if_pos hl]; simp [watchkeeperlaw13_VoteTurns.j0]
  · rw [if_neg hl]
    generalize hq : l1.length + 3 = q
    simp only [watchkeeperlaw13_VoteTurns.j0]
    by_cases hz : l1.length = 0
    · rw [if_pos (by simp [hz])]
    · rw [if_neg (by simp; exact fun e => hz (by rw [e]; rfl)), if_neg (by omega)]
      simp only [Option.bind_some, List.nil_append, List.length_nil, Nat.zero_add]
      have hj := tmod_range (a := wrap64 a2) (n := l1.length) (by rw [wrap_id (by omega)]; omega) (by omega)
      rw [if_pos hj.1, if_pos (by omega), if_pos (by rw [List.length_drop]; omega), if_pos (by rw [List.length_drop, List.length_take]; omega)]
      have hc : ∀ so, cntS so (l1.drop ((wrap64 a2).tmod l1.length).toNat ++ l1.take ((wrap64 a2).tmod l1.length).toNat) = cntS so l1 := by
        intro so
        have e := congrArg (cntS so) (List.take_append_drop ((wrap64 a2).tmod l1.length).toNat l1)
        rw [cnt_append] at e ⊢; omega
      exact turns_loop a0 l1 (by omega) (l1.length + 2) q _ 0 (by rw [List.length_append, List.length_drop, List.length_take]; omega) (hc _) (hc _) (by omega) (by omega) (by omega) (by omega)
end Go.Proofs.Ythhgomobjcpdoaa.Pure
