/- The plain laws VoteAll and VoteLess. -/
import Derived.Test.YthhgomobjcpdoaaPureB
import Derived.Test.YthhgomobjcpdoaaQA5
import Derived.Test.YthhgomobjcpdoaaQA6
namespace Go.Proofs.Ythhgomobjcpdoaa.Pure
open Go.RowKit Go.Proofs.Ythhgomobjcpdoaa.QA Go.Proofs.YthhgomobjcpdoaaW.PrintWords Go.Proofs.YthhgomobjcpdoaaW.PrintLast

theorem wf8 {n : Int} (h : (Lit.int .u8 n).wf = true) : 0 ≤ n ∧ n ≤ 255 := by
  simpa [Lit.wf, IntKind.min, IntKind.max, IntKind.signed, IntKind.bits] using h

/-- All are bypassed from the places done on. -/
def outOf (l : List S29) (i : Int) (o : List S29) : Prop := o.length = l.length ∧ V (o.take i.toNat) = 0
theorem all_l2 (a0 a1 : Int) (l : List S29) (hl : l.length ≤ 600) (h0 : 0 ≤ a0 ∧ a0 ≤ 255) (h1 : 0 ≤ a1 ∧ a1 ≤ 255) (hY : Y l = a1.toNat) (hV : V l = l.length) (d : Nat) :
    ∀ (k : Nat) (o : List S29) (i : Int), outOf l i o → 0 ≤ i → i ≤ l.length → (l.length : Int) - i = d → d < k → watchkeeperlaw13_VoteAll.l2 k a0 a1 true l o i = some true := by
  have h : l.length ≤ 1000000 := by omega
  induction d with
  | zero =>
    intro k o i ho h0i h1i hd hk
    obtain ⟨k, rfl⟩ : ∃ m, k = m + 1 := ⟨k - 1, by omega⟩
    have hol : o.length ≤ 1000000 := by rw [ho.1]; omega
    have hov : V o = 0 := by have := ho.2; rwa [List.take_of_length_le (by rw [ho.1]; omega)] at this
    have hoy : Y o = 0 := by have := Y_le_V o; omega
    simp only [watchkeeperlaw13_VoteAll.l2]
    rw [if_neg (by omega), if_pos trivial, wrap_id (n := a0) (by omega), wrap_id (n := a1) (by omega), trips_eq _ _ h, trips_eq _ _ hol, trips_eq a0 [] (by simp), need_eq _ _ hol, healthy_eq _ _ h, hov, hoy, mn_min, mx_max]
    have hn0 : min (max a0 1) ((0 : Nat) : Int) = 0 := by omega
    have t0 : tr a0 0 0 = false := by unfold tr; simp only [decide_eq_false_iff_not]; omega
    have tn : tr a0 (Y []) (V []) = false := t0
    rw [tn, t0, hn0, hV, hY]
    simp only [Option.bind_some]
    by_cases hp : (l.length : Int) > 0
    · rw [if_pos hp]
      have e : tr a0 a1.toNat l.length = decide (a1 ≥ min (max a0 1) (l.length : Int)) := by
        unfold tr; congr 1; apply propext; constructor <;> intro <;> omega
      rw [if_pos (by rw [e]; simp)]
      simp
    · rw [if_neg hp]
      have e : tr a0 a1.toNat l.length = false := by unfold tr; simp only [decide_eq_false_iff_not]; omega
      rw [e]
      simp
  | succ d ih =>
    intro k o i ho h0i h1i hd hk
    obtain ⟨k, rfl⟩ : ∃ m, k = m + 1 := ⟨k - 1, by omega⟩
    have hio : i.toNat < o.length := by have := ho.1; omega
    simp only [watchkeeperlaw13_VoteAll.l2]
    rw [if_pos (by omega), if_pos h0i, if_pos (by omega), wrap_id (n := i + 1) (by omega)]
    simp only [Option.bind_some]
    refine ih k _ (i + 1) ⟨by rw [List.length_set, List.length_set, ho.1], ?_⟩ (by omega) (by omega) (by omega) (by omega)
    rw [show (i + 1).toNat = i.toNat + 1 by omega]
    generalize hz : o.set i.toNat (⟨(rd_T29 l i).f0, (rd_T29 l i).f1, (rd_T29 l i).f2⟩ : S29) = z
    have hzl : z.length = o.length := by rw [← hz, List.length_set]
    have hzt : z.take i.toNat = o.take i.toNat := by rw [← hz, List.take_set_of_le (by omega)]
    rw [List.take_succ_eq_append_getElem (by rw [List.length_set]; omega), List.take_set_of_le (by omega), hzt]
    unfold V
    rw [cnt_append, cnt_cons, cnt_nil]
    have := ho.2
    unfold V at this
    rw [this, List.getElem_set_self]
    rfl

theorem all_l1 (a0 a1 a2 : Int) (h0 : 0 ≤ a0 ∧ a0 ≤ 255) (h1 : 0 ≤ a1 ∧ a1 ≤ 255) (h2 : 0 ≤ a2 ∧ a2 ≤ 255) (d : Nat) :
    ∀ (k : Nat) (l : List S29) (i : Int), l.length = a1.toNat + i.toNat → Y l = a1.toNat → V l = l.length → 0 ≤ i → i ≤ a2 → a2 - i = d → d + 600 < k → watchkeeperlaw13_VoteAll.l1 k a0 a1 a2 true l i = some true := by
  induction d with
  | zero =>
    intro k l i hl hY hV h0i h1i hd hk
    obtain ⟨k, rfl⟩ : ∃ m, k = m + 1 := ⟨k - 1, by omega⟩
    simp only [watchkeeperlaw13_VoteAll.l1]
    rw [wrap_id (n := a2) (by omega), if_neg (by omega), if_pos (by omega), if_pos (by omega)]
    exact all_l2 a0 a1 l (by omega) h0 h1 hY hV l.length k _ 0 ⟨by simp, by simp [V, cnt_nil]⟩ (by omega) (by omega) (by omega) (by omega)
  | succ d ih =>
    intro k l i hl hY hV h0i h1i hd hk
    obtain ⟨k, rfl⟩ : ∃ m, k = m + 1 := ⟨k - 1, by omega⟩
    simp only [watchkeeperlaw13_VoteAll.l1]
    rw [wrap_id (n := a2) (by omega), if_pos (by omega), if_pos (by omega), wrap_id (n := i + 1) (by omega)]
    refine ih k _ (i + 1) (by rw [List.length_append]; simp; omega) ?_ ?_ (by omega) (by omega) (by omega) (by omega)
    · unfold Y at *; rw [cnt_append, hY, cnt_cons, cnt_nil]; rfl
    · unfold V at *; rw [cnt_append, hV, cnt_cons, cnt_nil, List.length_append]; rfl

theorem all_l0 (a0 a1 a2 : Int) (h0 : 0 ≤ a0 ∧ a0 ≤ 255) (h1 : 0 ≤ a1 ∧ a1 ≤ 255) (h2 : 0 ≤ a2 ∧ a2 ≤ 255) (d : Nat) :
    ∀ (k : Nat) (l : List S29) (i : Int), l.length = i.toNat → Y l = i.toNat → V l = l.length → 0 ≤ i → i ≤ a1 → a1 - i = d → d + 1000 < k → watchkeeperlaw13_VoteAll.l0 k a0 a1 a2 true l i = some true := by
  induction d with
  | zero =>
    intro k l i hl hY hV h0i h1i hd hk
    obtain ⟨k, rfl⟩ : ∃ m, k = m + 1 := ⟨k - 1, by omega⟩
    simp only [watchkeeperlaw13_VoteAll.l0]
    rw [wrap_id (n := a1) (by omega), if_neg (by omega)]
    have hi : i = a1 := by omega
    subst hi
    exact all_l1 a0 i a2 h0 h1 h2 a2.toNat k l 0 (by omega) hY hV (by omega) (by omega) (by omega) (by omega)
  | succ d ih =>
    intro k l i hl hY hV h0i h1i hd hk
    obtain ⟨k, rfl⟩ : ∃ m, k = m + 1 := ⟨k - 1, by omega⟩
    simp only [watchkeeperlaw13_VoteAll.l0]
    rw [wrap_id (n := a1) (by omega), if_pos (by omega), if_pos (by omega), wrap_id (n := i + 1) (by omega)]
    have hp : Int.tmod i 2 = 0 ∨ Int.tmod i 2 = 1 := by rw [Int.tmod_eq_emod_of_nonneg h0i]; omega
    have hy : yesS (Int.tmod i 2 == 0) (Int.tmod i 2 == 1) false = true := by
      rcases hp with e | e <;> simp [yesS, e]
    refine ih k _ (i + 1) (by rw [List.length_append]; simp; omega) ?_ ?_ (by omega) (by omega) (by omega) (by omega)
    · unfold Y at *; rw [cnt_append, hY, cnt_cons, cnt_nil, hy]; simp [b2n]; omega
    · unfold V at *; rw [cnt_append, hV, cnt_cons, cnt_nil, List.length_append]; rfl

theorem VoteAll (a0 a1 a2 : Int) (w0 : (Lit.int .u8 a0).wf = true) (w1 : (Lit.int .u8 a1).wf = true) (w2 : (Lit.int .u8 a2).wf = true) : ∃ k, watchkeeperlaw13_VoteAll.f k a0 a1 a2 = some true := by
  have h1 := wf8 w1
  refine ⟨2000, ?_⟩
  unfold watchkeeperlaw13_VoteAll.f
  rw [head_true]
  simp only [Option.bind_some]
  exact all_l0 a0 a1 a2 (wf8 w0) h1 (wf8 w2) a1.toNat 2000 [] 0 (by simp) rfl rfl (by omega) (by omega) (by omega) (by omega)

/-- The end of VoteLess: 'rest': do all that vote, vote yes? 'any': does one vote? -/
theorem less_l0 (l x : List S29) (j : Int) (hl : l.length ≤ 5000) (hpos : 0 < l.length) (hx : x.length = l.length) (hj0 : 0 ≤ j) (hj : j < (l.length : Int)) (d : Nat) :
    ∀ (k : Nat) (rest any : Bool) (i : Int), rest = decide (Y (x.take i.toNat) = V (x.take i.toNat)) → any = decide (0 < V (x.take i.toNat)) → 0 ≤ i → i ≤ x.length → (x.length : Int) - i = d → d < k →
      watchkeeperlaw13_VoteLess.l0 k l true j x (l.length : Int) rest any i = some true := by
  have h : l.length ≤ 1000000 := by omega
  have h' : x.length ≤ 1000000 := by omega
  have hjn : j.toNat < l.length := by omega
  induction d with
  | zero =>
    intro k rest any i hr ha h0 h1 hd hk
    obtain ⟨k, rfl⟩ : ∃ m, k = m + 1 := ⟨k - 1, by omega⟩
    rw [List.take_of_length_le (by omega)] at hr ha
    have hyv := Y_le_V x
    have hvl := V_le x
    have s1 : (l.set j.toNat (⟨true, false, false⟩ : S29)).length ≤ 1000000 := by rw [List.length_set]; exact h
    have s2 : (l.set j.toNat (⟨false, true, false⟩ : S29)).length ≤ 1000000 := by rw [List.length_set]; exact h
    have eY : Y (l.set j.toNat (⟨true, false, false⟩ : S29)) = Y (l.set j.toNat (⟨false, true, false⟩ : S29)) := by unfold Y; rw [cnt_set _ _ _ _ hjn, cnt_set _ _ _ _ hjn]; rfl
    have eV : V (l.set j.toNat (⟨true, false, false⟩ : S29)) = V (l.set j.toNat (⟨false, true, false⟩ : S29)) := by unfold V; rw [cnt_set _ _ _ _ hjn, cnt_set _ _ _ _ hjn]; rfl
    simp only [watchkeeperlaw13_VoteLess.l0]
    rw [if_neg (by omega)]
    simp only [Option.bind_some, List.nil_append, List.length_nil, Nat.zero_add]
    rw [if_pos (by omega), if_pos (by omega), if_pos hj0, if_pos hj]
    rw [if_pos hj, if_pos trivial, trips_eq _ _ h', trips_eq _ _ s1, trips_eq _ _ s2, yes_eq _ s1, yes_eq _ s2, eY, eV]
    simp only [Option.bind_some]
    have et : tr (l.length : Int) (Y x) (V x) = decide (0 < V x ∧ Y x = V x) := by
      unfold tr; congr 1; apply propext; constructor <;> intro <;> omega
    cases any with
    | true =>
      have hv : 0 < V x := by simpa using ha.symm
      rw [if_pos rfl, et, hr]
      simp [hv]
    | false =>
      have hv : ¬ 0 < V x := by simpa using ha.symm
      rw [if_neg (by decide), et]
      simp [hv]
  | succ d ih =>
    intro k rest any i hr ha h0 h1 hd hk
    obtain ⟨k, rfl⟩ : ∃ m, k = m + 1 := ⟨k - 1, by omega⟩
    have hi : i.toNat < x.length := by omega
    have hy := cntS_take yesS x i.toNat hi
    have hv := cntS_take votesS x i.toNat hi
    have hyv := Y_le_V (x.take i.toNat)
    have er : rd_T29 x ((i.toNat : Nat) : Int) = rd_T29 x i := by rw [show ((i.toNat : Nat) : Int) = i by omega]
    rw [er] at hy hv
    simp only [watchkeeperlaw13_VoteLess.l0]
    rw [if_pos (by omega), if_pos h0, wrap_id (n := i + 1) (by omega)]
    have next := fun r a hr' ha' => ih k r a (i + 1) hr' ha' (by omega) (by omega) (by omega) (by omega)
    rw [show (i + 1).toNat = i.toNat + 1 by omega] at next
    have eY : ∀ m, Y (x.take m) = cntS yesS (x.take m) := fun _ => rfl
    have eV : ∀ m, V (x.take m) = cntS votesS (x.take m) := fun _ => rfl
    rw [eY, eV] at hr
    rw [eV] at ha
    rw [eY, eV] at hyv
    simp only [eY, eV] at next
    rw [hy, hv] at next
    cases h2 : (rd_T29 x i).f2 with
    | true =>
      rw [if_pos rfl]
      exact next rest any (by rw [hr]; simp [yesS, votesS, h2]) (by rw [ha]; simp [votesS, h2])
    | false =>
      rw [if_neg (by decide)]
      cases rest with
      | true =>
        have hr' : cntS yesS (x.take i.toNat) = cntS votesS (x.take i.toNat) := by simpa using hr.symm
        rw [if_pos rfl]
        cases hf0 : (rd_T29 x i).f0 with
        | true => rw [if_pos rfl]; exact next true true (by simp [yesS, votesS, h2, hf0, hr']) (by simp [votesS, h2])
        | false =>
          rw [if_neg (by decide)]
          refine next _ true ?_ (by simp [votesS, h2])
          cases (rd_T29 x i).f1 <;> simp [yesS, votesS, h2, hf0, hr']
      | false =>
        have hr' : cntS yesS (x.take i.toNat) ≠ cntS votesS (x.take i.toNat) := by simpa using hr.symm
        rw [if_neg (by decide)]
        refine next false true ?_ (by simp [votesS, h2])
        symm
        simp only [decide_eq_false_iff_not]
        have a1 : (if yesS (rd_T29 x i).f0 (rd_T29 x i).f1 (rd_T29 x i).f2 = true then 1 else 0) ≤ 1 := by split <;> omega
        have a2 : (if votesS (rd_T29 x i).f0 (rd_T29 x i).f1 (rd_T29 x i).f2 = true then 1 else 0) = 1 := by rw [h2]; rfl
        omega

theorem VoteLess (l0 : List S29) (a1 : Int) (_w0 : l0.length ≤ maxLen ∧ ∀ x0 ∈ l0, (True) ∧ (True) ∧ (True)) (w1 : (Lit.int .u16 a1).wf = true) : ∃ k, watchkeeperlaw13_VoteLess.f k l0 a1 = some true := by
  have h2 := wf16 w1
  refine ⟨(l0.length + 1) + 1, ?_⟩
  unfold watchkeeperlaw13_VoteLess.f
  rw [head_true]
  simp only [Option.bind_some]
  by_cases hl : (l0.length : Int) > 5000
  · rw [if_pos hl]; simp [watchkeeperlaw13_VoteLess.j0]
  · rw [if_neg hl]
    generalize hq : l0.length + 1 = q
    simp only [watchkeeperlaw13_VoteLess.j0]
    by_cases hz : l0.length = 0
    · rw [if_pos (by simp [hz])]
    · rw [if_neg (by simp; exact fun e => hz (by rw [e]; rfl)), if_neg (by omega)]
      simp only [Option.bind_some, List.nil_append, List.length_nil, Nat.zero_add]
      have hj := tmod_range (a := wrap64 a1) (n := l0.length) (by rw [wrap_id (by omega)]; omega) (by omega)
      rw [if_pos (by omega), if_pos hj.1, if_pos hj.2]
      exact less_l0 l0 _ _ (by omega) (by omega) (by rw [List.length_set]) hj.1 hj.2 l0.length q true false 0 (by simp [Y, V, cnt_nil]) (by simp [V, cnt_nil]) (by omega) (by omega) (by rw [List.length_set]; omega) (by omega)
end Go.Proofs.Ythhgomobjcpdoaa.Pure
