/-
  No cell of these rows narrows 'for every input' (looked for: loops, veiled, ifaces, maps, wideKeys, modest, calm, conditions, laid).
  DERIVED. THE GIVEN ROWS OF THIS SEAT. 5 by the template 'for every input the law returns true; each argument reads behind the call as it read before'; 0 by the template 'total and deterministic' (their statements: YthhgomobjcpdoaaTotals.lean).
  GIVEN WITH THE SEED: the statements are not yours to turn. If you find one false, say at which input.
  Laid BY PROGRAM, IN A SANDBOX (cutbox-rows.mjs): the forced cells as the released guide's own fill.sh prints them over the translation ae1386a1349f2964… (all of the seat's roots in one cut). By AI agents, Wed Nov 11 2026. No macro, syntax, notation, axiom, sorry.
-/
import Derived.Test.YthhgomobjcpdoaaChecked
import GoSem.Claim
import GoSem.ClaimJoined
import GoSem.ClaimMapViews
import Derived.JoinedTies
import Derived.KernelRfl
namespace Go.Proofs.Ythhgomobjcpdoaa
/- THE CELL 'sum', in the pinned program and in every row, IS THE sha256 OF THE DUMP (.gsa) THAT YthhgomobjcpdoaaProg.lean LOADS. Nothing in Lean hashes anything: it is a label: what it is worth is what the hold of that sum in a sandbox is worth. -/
noncomputable def Try.pinned : Pinned := { name := "ythhgomobjcpdoaa", sum := "ae1386a1349f2964588037018a02f4561d71b3c8fd13fb64b31adeed43ede506", checked := Try.checked }
namespace Rows
def none {H : Type} : Left H := { results := [], args := [] }

/-- 'watchkeeperlaw13.VoteTells': WHATEVER THE INPUT: true; the input reads as it did. -/
def voteTellsSpec : ChangeSpec := { name := "voteTells", fn := fun _ => fun
  | [d1, d2] => { results := [.lit (.bool true)], args := [d1, d2] }
  | _ => none }
def voteTellsRow : OpenClaim := { program := "ythhgomobjcpdoaa", sum := "ae1386a1349f2964588037018a02f4561d71b3c8fd13fb64b31adeed43ede506", func := "watchkeeper/watchkeeperlaw13.VoteTells", spec := "voteTells", unfollowed := true, recurses := true, apart := false }
def VoteTellsSaid : Prop := voteTellsRow.holds Try.pinned (OpenSpec.ofChange voteTellsSpec)

/-- ITS FALSE NEIGHBOUR: 'it returns false'. Refute it at one input. -/
def voteTellsWrong : ChangeSpec := { name := "voteTells", fn := fun _ => fun
  | [d1, d2] => { results := [.lit (.bool false)], args := [d1, d2] }
  | _ => none }
def VoteTellsWrongFalsely : Prop := voteTellsRow.holds Try.pinned (OpenSpec.ofChange voteTellsWrong)

/-- 'watchkeeperlaw13.VoteMore': WHATEVER THE INPUT: true; the input reads as it did. -/
def voteMoreSpec : ChangeSpec := { name := "voteMore", fn := fun _ => fun
  | [d1, d2, d3, d4] => { results := [.lit (.bool true)], args := [d1, d2, d3, d4] }
  | _ => none }
def voteMoreRow : OpenClaim := { program := "ythhgomobjcpdoaa", sum := "ae1386a1349f2964588037018a02f4561d71b3c8fd13fb64b31adeed43ede506", func := "watchkeeper/watchkeeperlaw13.VoteMore", spec := "voteMore", unfollowed := true, recurses := true, apart := false }
def VoteMoreSaid : Prop := voteMoreRow.holds Try.pinned (OpenSpec.ofChange voteMoreSpec)

/-- ITS FALSE NEIGHBOUR: 'it returns false'. Refute it at one input. -/
def voteMoreWrong : ChangeSpec := { name := "voteMore", fn := fun _ => fun
  | [d1, d2, d3, d4] => { results := [.lit (.bool false)], args := [d1, d2, d3, d4] }
  | _ => none }
def VoteMoreWrongFalsely : Prop := voteMoreRow.holds Try.pinned (OpenSpec.ofChange voteMoreWrong)

/-- 'watchkeeperlaw13.VoteTurns': WHATEVER THE INPUT: true; the input reads as it did. -/
def voteTurnsSpec : ChangeSpec := { name := "voteTurns", fn := fun _ => fun
  | [d1, d2, d3] => { results := [.lit (.bool true)], args := [d1, d2, d3] }
  | _ => none }
def voteTurnsRow : OpenClaim := { program := "ythhgomobjcpdoaa", sum := "ae1386a1349f2964588037018a02f4561d71b3c8fd13fb64b31adeed43ede506", func := "watchkeeper/watchkeeperlaw13.VoteTurns", spec := "voteTurns", unfollowed := true, recurses := true, apart := false }
def VoteTurnsSaid : Prop := voteTurnsRow.holds Try.pinned (OpenSpec.ofChange voteTurnsSpec)

/-- ITS FALSE NEIGHBOUR: 'it returns false'. Refute it at one input. -/
def voteTurnsWrong : ChangeSpec := { name := "voteTurns", fn := fun _ => fun
  | [d1, d2, d3] => { results := [.lit (.bool false)], args := [d1, d2, d3] }
  | _ => none }
def VoteTurnsWrongFalsely : Prop := voteTurnsRow.holds Try.pinned (OpenSpec.ofChange voteTurnsWrong)

/-- 'watchkeeperlaw13.VoteAll': WHATEVER THE INPUT: true; the input reads as it did. -/
def voteAllSpec : ChangeSpec := { name := "voteAll", fn := fun _ => fun
  | [d1, d2, d3] => { results := [.lit (.bool true)], args := [d1, d2, d3] }
  | _ => none }
def voteAllRow : OpenClaim := { program := "ythhgomobjcpdoaa", sum := "ae1386a1349f2964588037018a02f4561d71b3c8fd13fb64b31adeed43ede506", func := "watchkeeper/watchkeeperlaw13.VoteAll", spec := "voteAll", unfollowed := true, recurses := true, apart := false }
def VoteAllSaid : Prop := voteAllRow.holds Try.pinned (OpenSpec.ofChange voteAllSpec)

/-- ITS FALSE NEIGHBOUR: 'it returns false'. Refute it at one input. -/
def voteAllWrong : ChangeSpec := { name := "voteAll", fn := fun _ => fun
  | [d1, d2, d3] => { results := [.lit (.bool false)], args := [d1, d2, d3] }
  | _ => none }
def VoteAllWrongFalsely : Prop := voteAllRow.holds Try.pinned (OpenSpec.ofChange voteAllWrong)

/-- 'watchkeeperlaw13.VoteLess': WHATEVER THE INPUT: true; the input reads as it did. -/
def voteLessSpec : ChangeSpec := { name := "voteLess", fn := fun _ => fun
  | [d1, d2] => { results := [.lit (.bool true)], args := [d1, d2] }
  | _ => none }
def voteLessRow : OpenClaim := { program := "ythhgomobjcpdoaa", sum := "ae1386a1349f2964588037018a02f4561d71b3c8fd13fb64b31adeed43ede506", func := "watchkeeper/watchkeeperlaw13.VoteLess", spec := "voteLess", unfollowed := true, recurses := true, apart := false }
def VoteLessSaid : Prop := voteLessRow.holds Try.pinned (OpenSpec.ofChange voteLessSpec)

/-- ITS FALSE NEIGHBOUR: 'it returns false'. Refute it at one input. -/
def voteLessWrong : ChangeSpec := { name := "voteLess", fn := fun _ => fun
  | [d1, d2] => { results := [.lit (.bool false)], args := [d1, d2] }
  | _ => none }
def VoteLessWrongFalsely : Prop := voteLessRow.holds Try.pinned (OpenSpec.ofChange voteLessWrong)

/- THE SECOND FORM. 'bulk': how many values and letters a reading holds, each counted each time it is reached (what is shared counts as often as it is met; a slice's spare places count too). A statement '..UptoSaid' is the law's where the arguments, and the package variables that the reading takes, are together of bulk at most 1048576: NARROWER than '..Said'. Prove '..Said' where nothing that the law and all that it calls make is longer than what came in: it says more and counts as full. Else prove '..UptoSaid'. A law counts once. -/
mutual
def uptoBulk {H : Type} : DataW H → Nat
  | .lit (.string bytes) => bytes.length + 1
  | .lit _ => 1
  | .nil => 1
  | .ptr d => uptoBulk d + 1
  | .slice elems spare => uptoBulkAll elems + uptoBulkAll spare + 1
  | .agg parts => uptoBulkAll parts + 1
  | .iface _ d => uptoBulk d + 1
  | .map entries => uptoBulkEntries entries + 1
  | .held _ => 1
def uptoBulkAll {H : Type} : List (DataW H) → Nat
  | [] => 0
  | d :: r => uptoBulk d + uptoBulkAll r
def uptoBulkEntries {H : Type} : List (Lit × DataW H) → Nat
  | [] => 0
  | x :: r => uptoBulkEntry x + uptoBulkEntries r
def uptoBulkEntry {H : Type} : Lit × DataW H → Nat
  | (.string bytes, d) => bytes.length + uptoBulk d + 1
  | (_, d) => uptoBulk d + 1
 end
def uptoSmall : (H : Type) → List (DataW H) → Bool := fun _ ds => decide (uptoBulkAll ds ≤ 1048576)
def OpenSpec.upto (s : _root_.Go.ChangeSpec) : _root_.Go.OpenSpec := { _root_.Go.OpenSpec.ofChange s with cond := some uptoSmall }

/-- 'watchkeeperlaw13.VoteTells', WHERE WHAT IT READS IS OF BULK AT MOST 1048576: true; the input reads as it did. -/
def voteTellsUptoRow : OpenClaim := { program := "ythhgomobjcpdoaa", sum := "ae1386a1349f2964588037018a02f4561d71b3c8fd13fb64b31adeed43ede506", func := "watchkeeper/watchkeeperlaw13.VoteTells", spec := "voteTells", unfollowed := true, recurses := true, apart := false, narrowed := true }
def VoteTellsUptoSaid : Prop := voteTellsUptoRow.holds Try.pinned (OpenSpec.upto voteTellsSpec)

/-- 'watchkeeperlaw13.VoteMore', WHERE WHAT IT READS IS OF BULK AT MOST 1048576: true; the input reads as it did. -/
def voteMoreUptoRow : OpenClaim := { program := "ythhgomobjcpdoaa", sum := "ae1386a1349f2964588037018a02f4561d71b3c8fd13fb64b31adeed43ede506", func := "watchkeeper/watchkeeperlaw13.VoteMore", spec := "voteMore", unfollowed := true, recurses := true, apart := false, narrowed := true }
def VoteMoreUptoSaid : Prop := voteMoreUptoRow.holds Try.pinned (OpenSpec.upto voteMoreSpec)

/-- 'watchkeeperlaw13.VoteTurns', WHERE WHAT IT READS IS OF BULK AT MOST 1048576: true; the input reads as it did. -/
def voteTurnsUptoRow : OpenClaim := { program := "ythhgomobjcpdoaa", sum := "ae1386a1349f2964588037018a02f4561d71b3c8fd13fb64b31adeed43ede506", func := "watchkeeper/watchkeeperlaw13.VoteTurns", spec := "voteTurns", unfollowed := true, recurses := true, apart := false, narrowed := true }
def VoteTurnsUptoSaid : Prop := voteTurnsUptoRow.holds Try.pinned (OpenSpec.upto voteTurnsSpec)

/-- 'watchkeeperlaw13.VoteAll', WHERE WHAT IT READS IS OF BULK AT MOST 1048576: true; the input reads as it did. -/
def voteAllUptoRow : OpenClaim := { program := "ythhgomobjcpdoaa", sum := "ae1386a1349f2964588037018a02f4561d71b3c8fd13fb64b31adeed43ede506", func := "watchkeeper/watchkeeperlaw13.VoteAll", spec := "voteAll", unfollowed := true, recurses := true, apart := false, narrowed := true }
def VoteAllUptoSaid : Prop := voteAllUptoRow.holds Try.pinned (OpenSpec.upto voteAllSpec)

/-- 'watchkeeperlaw13.VoteLess', WHERE WHAT IT READS IS OF BULK AT MOST 1048576: true; the input reads as it did. -/
def voteLessUptoRow : OpenClaim := { program := "ythhgomobjcpdoaa", sum := "ae1386a1349f2964588037018a02f4561d71b3c8fd13fb64b31adeed43ede506", func := "watchkeeper/watchkeeperlaw13.VoteLess", spec := "voteLess", unfollowed := true, recurses := true, apart := false, narrowed := true }
def VoteLessUptoSaid : Prop := voteLessUptoRow.holds Try.pinned (OpenSpec.upto voteLessSpec)

end Rows
end Go.Proofs.Ythhgomobjcpdoaa
