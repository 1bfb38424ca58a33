/- The plain laws of the vote layer: VoteTells. -/
import Derived.Test.YthhgomobjcpdoaaQA2
namespace Go.Proofs.Ythhgomobjcpdoaa.Pure
open Go.RowKit Go.Proofs.Ythhgomobjcpdoaa.QA Go.Proofs.YthhgomobjcpdoaaW.PrintWords Go.Proofs.YthhgomobjcpdoaaW.PrintLast

theorem head_true : watchkeeperlaw13_head.f = some true := rfl
theorem wrap_id {n : Int} (h : -9223372036854775808 ≤ n ∧ n ≤ 9223372036854775807) : wrap64 n = n := by unfold wrap64; omega
theorem mn_min (a b : Int) : mn a b = min a b := by unfold mn; omega
theorem mx_max (a b : Int) : mx a b = max a b := by unfold mx; omega

def b2n (b : Bool) : Nat := if b then 1 else 0
def yes (x : S29) : Bool := yesS x.f0 x.f1 x.f2
def vot (x : S29) : Bool := votesS x.f0 x.f1 x.f2
def Y (l : List S29) : Nat := cntS yesS l
def V (l : List S29) : Nat := cntS votesS l
theorem cnt_append (so : Bool → Bool → Bool → Bool) (a b : List S29) : cntS so (a ++ b) = cntS so a + cntS so b := by simp [cntS, List.filter_append]
theorem cnt_cons (so : Bool → Bool → Bool → Bool) (x : S29) (l : List S29) : cntS so (x :: l) = b2n (so x.f0 x.f1 x.f2) + cntS so l := by
  unfold cntS b2n
  rw [List.filter_cons]
  split <;> simp_all [Nat.add_comm]
theorem cnt_nil (so : Bool → Bool → Bool → Bool) : cntS so [] = 0 := rfl
theorem cnt_split (so : Bool → Bool → Bool → Bool) (l : List S29) (k : Nat) (hk : k < l.length) :
    cntS so l = cntS so (l.take k) + b2n (so l[k].f0 l[k].f1 l[k].f2) + cntS so (l.drop (k + 1)) := by
  have h : l = l.take k ++ (l[k] :: l.drop (k + 1)) := by rw [← List.drop_eq_getElem_cons hk, List.take_append_drop]
  have e : cntS so l = cntS so (l.take k ++ (l[k] :: l.drop (k + 1))) := congrArg _ h
  rw [e, cnt_append, cnt_cons]; omega
theorem cnt_set (so : Bool → Bool → Bool → Bool) (l : List S29) (k : Nat) (x : S29) (hk : k < l.length) :
    cntS so (l.set k x) = cntS so (l.take k) + b2n (so x.f0 x.f1 x.f2) + cntS so (l.drop (k + 1)) := by
  rw [List.set_eq_take_append_cons_drop, if_pos hk, cnt_append, cnt_cons]; omega
theorem Y_le_V (l : List S29) : Y l ≤ V l := by
  induction l with
  | nil => simp [Y, V, cnt_nil]
  | cons x l ih =>
    unfold Y V at *
    rw [cnt_cons, cnt_cons]
    have : b2n (yesS x.f0 x.f1 x.f2) ≤ b2n (votesS x.f0 x.f1 x.f2) := by
      unfold b2n yesS votesS; cases x.f2 <;> cases x.f0 <;> cases x.f1 <;> simp
    omega
theorem V_le (l : List S29) : V l ≤ l.length := cntS_le _ _

def tr (n : Int) (y v : Nat) : Bool := decide (0 < min (max n 1) (v : Int) ∧ min (max n 1) (v : Int) ≤ (y : Int))
theorem need_eq (n : Int) (l : List S29) (h : l.length ≤ 1000000) : vote_Need.f n l = some (min (max n 1) (V l : Int)) := by
  unfold vote_Need.f; rw [if_pos h]; rfl
theorem yes_eq (l : List S29) (h : l.length ≤ 1000000) : vote_Yes.f l = some (Y l : Int) := by
  unfold vote_Yes.f; rw [if_pos h]; rfl
theorem trips_eq (n : Int) (l : List S29) (h : l.length ≤ 1000000) : vote_Trips.f n l = some (tr n (Y l) (V l)) := by
  unfold vote_Trips.f tr
  rw [need_eq n l h]
  simp only [Option.bind_some]
  by_cases hp : min (max n 1) (V l : Int) > 0
  · rw [if_pos hp, yes_eq l h]
    simp only [Option.bind_some]
    congr 1
    by_cases hq : min (max n 1) (V l : Int) ≤ (Y l : Int)
    · simp [hq, hp]
    · simp [hq]
  · rw [if_neg hp]
    have : ¬ (0 < min (max n 1) (V l : Int)) := hp
    simp only [this, false_and, decide_false]
theorem healthy_eq (n : Int) (l : List S29) (h : l.length ≤ 1000000) : vote_Healthy.f n l = some (decide (V l = l.length) && !tr n (Y l) (V l)) := by
  unfold vote_Healthy.f
  rw [if_pos h, trips_eq n l h]; rfl

theorem rd_at {l : List S29} {i : Int} (_h0 : 0 ≤ i) (h : i.toNat < l.length) : rd_T29 l i = l[i.toNat] := by
  unfold rd_T29; rw [List.getD_eq_getElem?_getD, List.getElem?_eq_getElem h]; rfl
theorem drop_cons {l : List S29} {i : Int} (h0 : 0 ≤ i) (h : i < (l.length : Int)) : l.drop i.toNat = rd_T29 l i :: l.drop (i + 1).toNat := by
  rw [rd_at h0 (by omega), show (i + 1).toNat = i.toNat + 1 by omega]
  exact List.drop_eq_getElem_cons (by omega)

theorem ryes_loop (l : List S29) (hn : l.length ≤ 1000000) (d : Nat) : ∀ (k : Nat) (n i : Int), 0 ≤ i → i ≤ l.length → (l.length : Int) - i = d → d < k → 0 ≤ n → n ≤ i →
    watchkeeperref13_Yes.l0 k l n i = some (n + Y (l.drop i.toNat)) := by
  induction d with
  | zero =>
    intro k n i h0 h1 hd hk hn0 hni
    obtain ⟨k, rfl⟩ : ∃ m, k = m + 1 := ⟨k - 1, by omega⟩
    simp only [watchkeeperref13_Yes.l0]
    rw [if_neg (by omega), List.drop_eq_nil_of_le (by omega)]
    simp [Y, cnt_nil]
  | succ d ih =>
    intro k n i h0 h1 hd hk hn0 hni
    obtain ⟨k, rfl⟩ : ∃ m, k = m + 1 := ⟨k - 1, by omega⟩
    have hlt : i < (l.length : Int) := by omega
    simp only [watchkeeperref13_Yes.l0]
    rw [if_pos hlt, if_pos h0, wrap_id (n := i + 1) (by omega), wrap_id (n := n + 1) (by omega), drop_cons h0 hlt]
    have e : Y (rd_T29 l i :: l.drop (i + 1).toNat) = b2n (yes (rd_T29 l i)) + Y (l.drop (i + 1).toNat) := cnt_cons _ _ _
    rw [e]
    have i0 := ih k n (i + 1) (by omega) (by omega) (by omega) (by omega) hn0 (by omega)
    have i1 := ih k (n + 1) (i + 1) (by omega) (by omega) (by omega) (by omega) (by omega) (by omega)
    unfold yes yesS b2n
    cases h2 : (rd_T29 l i).f2 <;> cases hf0 : (rd_T29 l i).f0 <;> cases hf1 : (rd_T29 l i).f1 <;> simp [i0, i1] <;> omega
theorem rvot_loop (l : List S29) (hn : l.length ≤ 1000000) (d : Nat) : ∀ (k : Nat) (n i : Int), 0 ≤ i → i ≤ l.length → (l.length : Int) - i = d → d < k → 0 ≤ n → n ≤ i →
    watchkeeperref13_Voters.l0 k l n i = some (n + V (l.drop i.toNat)) := by
  induction d with
  | zero =>
    intro k n i h0 h1 hd hk hn0 hni
    obtain ⟨k, rfl⟩ : ∃ m, k = m + 1 := ⟨k - 1, by omega⟩
    simp only [watchkeeperref13_Voters.l0]
    rw [if_neg (by omega), List.drop_eq_nil_of_le (by omega)]
    simp [V, cnt_nil]
  | succ d ih =>
    intro k n i h0 h1 hd hk hn0 hni
    obtain ⟨k, rfl⟩ : ∃ m, k = m + 1 := ⟨k - 1, by omega⟩
    have hlt : i < (l.length : Int) := by omega
    simp only [watchkeeperref13_Voters.l0]
    rw [if_pos hlt, if_pos h0, wrap_id (n := i + 1) (by omega), wrap_id (n := n + 1) (by omega), drop_cons h0 hlt]
    have e : V (rd_T29 l i :: l.drop (i + 1).toNat) = b2n (vot (rd_T29 l i)) + V (l.drop (i + 1).toNat) := cnt_cons _ _ _
    rw [e]
    have i0 := ih k n (i + 1) (by omega) (by omega) (by omega) (by omega) hn0 (by omega)
    have i1 := ih k (n + 1) (i + 1) (by omega) (by omega) (by omega) (by omega) (by omega) (by omega)
    unfold vot votesS b2n
    cases h2 : (rd_T29 l i).f2 <;> simp [i0, i1] <;> omega

theorem VoteTells (a0 : Int) (l1 : List S29) (_w0 : (Lit.int .i64 a0).wf = true) (_w1 : l1.length ≤ maxLen ∧ ∀ x0 ∈ l1, (True) ∧ (True) ∧ (True)) : ∃ k, watchkeeperlaw13_VoteTells.f k a0 l1 = some true := by
  refine ⟨l1.length + 1, ?_⟩
  unfold watchkeeperlaw13_VoteTells.f
  rw [head_true]
  simp only [Option.bind_some]
  by_cases hl : (l1.length : Int) > 5000
  · rw [if_pos hl]
  · rw [if_neg hl, if_pos trivial]
    have h : l1.length ≤ 1000000 := by omega
    have ry : watchkeeperref13_Yes.f (l1.length + 1) l1 = some (Y l1 : Int) := by
      unfold watchkeeperref13_Yes.f; rw [ryes_loop l1 h l1.length _ 0 0 (by omega) (by omega) (by omega) (by omega) (by omega) (by omega)]; simp
    have rv : watchkeeperref13_Voters.f (l1.length + 1) l1 = some (V l1 : Int) := by
      unfold watchkeeperref13_Voters.f; rw [rvot_loop l1 h l1.length _ 0 0 (by omega) (by omega) (by omega) (by omega) (by omega) (by omega)]; simp
    have rn : watchkeeperref13_Need.f (l1.length + 1) a0 l1 = some (min (max a0 1) (V l1 : Int)) := by
      unfold watchkeeperref13_Need.f; rw [rv]; simp [mn_min, mx_max]
    have rt : watchkeeperref13_Trips.f (l1.length + 1) a0 l1 = some (tr a0 (Y l1) (V l1)) := by
      unfold watchkeeperref13_Trips.f; rw [rv, ry, rn]
      simp only [Option.bind_some, tr]
      by_cases hv : (V l1 : Int) > 0
      · rw [if_pos hv]
        congr 1
        have : 0 < min (max a0 1) (V l1 : Int) := by omega
        simp [this]
      · rw [if_neg hv]
        have : ¬ 0 < min (max a0 1) (V l1 : Int) := by omega
        simp only [this, false_and, decide_false]
    have rh : watchkeeperref13_Healthy.f (l1.length + 1) a0 l1 = some (decide (V l1 = l1.length) && !tr a0 (Y l1) (V l1)) := by
      unfold watchkeeperref13_Healthy.f; rw [rv, rt]
      simp only [Option.bind_some]
      by_cases hv : V l1 = l1.length
      · rw [if_pos (by omega)]; simp [hv]
      · rw [if_neg (by omega)]; simp [hv]
    rw [yes_eq l1 h, ry, need_eq a0 l1 h, rn, trips_eq a0 l1 h, rt, healthy_eq a0 l1 h, rh]
    simp
end Go.Proofs.Ythhgomobjcpdoaa.Pure
