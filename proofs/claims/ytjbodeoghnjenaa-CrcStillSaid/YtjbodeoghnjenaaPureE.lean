/- What is handed in is as it was. -/
import Derived.Test.YtjbodeoghnjenaaPureB
import Derived.Test.YtjbodeoghnjenaaQA6
namespace Go.Proofs.Ytjbodeoghnjenaa.Pure
open Go.RowKit Go.Proofs.Ytjbodeoghnjenaa Go.Proofs.Ytjbodeoghnjenaa.QA Go.Proofs.YtjbodeoghnjenaaW.PrintWords Go.Proofs.YtjbodeoghnjenaaW.PrintLast
theorem still_loop (l0 : List Int) (hb : Bytes l0) (hn : l0.length ≤ 9000) : ∀ (m : Nat) (x : List Int) (i : Nat), x.length ≤ 9000 → i + m = x.length →
    watchkeeperlaw01_CrcStill.l0 (m + 1) l0 true (strOfNums l0) (sealOf l0) x (strOfNums (sealOf l0)) (i : Int) = some true := by
  intro m
  induction m with
  | zero =>
    intro x i hx hi
    have h1 : ¬ ((i : Int) < (x.length : Int)) := by omega
    unfold watchkeeperlaw01_CrcStill.l0
    rw [if_neg h1, open_sealOf hb (by omega)]
    simp
  | succ m ih =>
    intro x i hx hi
    have h1 : ((i : Int) < (x.length : Int)) := by omega
    have h2 : (0 : Int) ≤ (i : Int) := by omega
    have h3 : wrap64 ((i : Int) + 1) = ((i + 1 : Nat) : Int) := by unfold wrap64; omega
    unfold watchkeeperlaw01_CrcStill.l0
    rw [if_pos h1, if_pos h2, h3]
    exact ih _ (i + 1) (by simpa using hx) (by simp; omega)
theorem CrcStill : watchkeeperlaw01_CrcStill.Pure := by
  intro l0 _ _ hw
  have hb := bytes_wf hw
  refine ⟨l0.length + 1, ?_⟩
  unfold watchkeeperlaw01_CrcStill.f
  rw [head_f, Option.bind_some]
  by_cases hn : (l0.length : Int) > 9000
  · rw [if_pos hn]
  rw [if_neg hn, seal_f hb (by omega), Option.bind_some, open_sealOf hb (by omega), Option.bind_some]
  exact still_loop l0 hb (by omega) l0.length l0 0 (by omega) (by omega)
end Go.Proofs.Ytjbodeoghnjenaa.Pure
