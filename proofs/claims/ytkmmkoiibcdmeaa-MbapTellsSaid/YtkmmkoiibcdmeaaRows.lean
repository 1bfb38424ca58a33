/-
  No cell of these rows narrows 'for every input' (looked for: loops, veiled, ifaces, maps, wideKeys, modest, calm, conditions, laid).
  DERIVED. THE GIVEN ROWS OF THIS SEAT. 6 by the template 'for every input the law returns true; each argument reads behind the call as it read before'; 0 by the template 'total and deterministic' (their statements: YtkmmkoiibcdmeaaTotals.lean).
  GIVEN WITH THE SEED: the statements are not yours to turn. If you find one false, say at which input.
  Laid BY PROGRAM, IN A SANDBOX (cutbox-rows.mjs): the forced cells as the released guide's own fill.sh prints them over the translation d526a7825375ca2c… (all of the seat's roots in one cut). By AI agents, Wed Nov 11 2026. No macro, syntax, notation, axiom, sorry.
-/
import Derived.Test.YtkmmkoiibcdmeaaChecked
import GoSem.Claim
import GoSem.ClaimJoined
import GoSem.ClaimMapViews
import Derived.JoinedTies
import Derived.KernelRfl
namespace Go.Proofs.Ytkmmkoiibcdmeaa
/- THE CELL 'sum', in the pinned program and in every row, IS THE sha256 OF THE DUMP (.gsa) THAT YtkmmkoiibcdmeaaProg.lean LOADS. Nothing in Lean hashes anything: it is a label: what it is worth is what the hold of that sum in a sandbox is worth. -/
noncomputable def Try.pinned : Pinned := { name := "ytkmmkoiibcdmeaa", sum := "d526a7825375ca2c09cb566402dd3cffdca7cb7f75b2d8126d8f65bd8c887596", checked := Try.checked }
namespace Rows
def none {H : Type} : Left H := { results := [], args := [] }

/-- 'watchkeeperlaw03.MbapHead': WHATEVER THE INPUT: true; the input reads as it did. -/
def mbapHeadSpec : ChangeSpec := { name := "mbapHead", fn := fun _ => fun
  | [d1, d2] => { results := [.lit (.bool true)], args := [d1, d2] }
  | _ => none }
def mbapHeadRow : OpenClaim := { program := "ytkmmkoiibcdmeaa", sum := "d526a7825375ca2c09cb566402dd3cffdca7cb7f75b2d8126d8f65bd8c887596", func := "watchkeeper/watchkeeperlaw03.MbapHead", spec := "mbapHead", apart := false }
def MbapHeadSaid : Prop := mbapHeadRow.holds Try.pinned (OpenSpec.ofChange mbapHeadSpec)

/-- ITS FALSE NEIGHBOUR: 'it returns false'. Refute it at one input. -/
def mbapHeadWrong : ChangeSpec := { name := "mbapHead", fn := fun _ => fun
  | [d1, d2] => { results := [.lit (.bool false)], args := [d1, d2] }
  | _ => none }
def MbapHeadWrongFalsely : Prop := mbapHeadRow.holds Try.pinned (OpenSpec.ofChange mbapHeadWrong)

/-- 'watchkeeperlaw03.MbapTells': WHATEVER THE INPUT: true; the input reads as it did. -/
def mbapTellsSpec : ChangeSpec := { name := "mbapTells", fn := fun _ => fun
  | [d1, d2] => { results := [.lit (.bool true)], args := [d1, d2] }
  | _ => none }
def mbapTellsRow : OpenClaim := { program := "ytkmmkoiibcdmeaa", sum := "d526a7825375ca2c09cb566402dd3cffdca7cb7f75b2d8126d8f65bd8c887596", func := "watchkeeper/watchkeeperlaw03.MbapTells", spec := "mbapTells", unfollowed := true, recurses := true, apart := false }
def MbapTellsSaid : Prop := mbapTellsRow.holds Try.pinned (OpenSpec.ofChange mbapTellsSpec)

/-- ITS FALSE NEIGHBOUR: 'it returns false'. Refute it at one input. -/
def mbapTellsWrong : ChangeSpec := { name := "mbapTells", fn := fun _ => fun
  | [d1, d2] => { results := [.lit (.bool false)], args := [d1, d2] }
  | _ => none }
def MbapTellsWrongFalsely : Prop := mbapTellsRow.holds Try.pinned (OpenSpec.ofChange mbapTellsWrong)

/-- 'watchkeeperlaw03.MbapBack': WHATEVER THE INPUT: true; the input reads as it did. -/
def mbapBackSpec : ChangeSpec := { name := "mbapBack", fn := fun _ => fun
  | [d] => { results := [.lit (.bool true)], args := [d] }
  | _ => none }
def mbapBackRow : OpenClaim := { program := "ytkmmkoiibcdmeaa", sum := "d526a7825375ca2c09cb566402dd3cffdca7cb7f75b2d8126d8f65bd8c887596", func := "watchkeeper/watchkeeperlaw03.MbapBack", spec := "mbapBack", unfollowed := true, recurses := true, apart := false }
def MbapBackSaid : Prop := mbapBackRow.holds Try.pinned (OpenSpec.ofChange mbapBackSpec)

/-- ITS FALSE NEIGHBOUR: 'it returns false'. Refute it at one input. -/
def mbapBackWrong : ChangeSpec := { name := "mbapBack", fn := fun _ => fun
  | [d] => { results := [.lit (.bool false)], args := [d] }
  | _ => none }
def MbapBackWrongFalsely : Prop := mbapBackRow.holds Try.pinned (OpenSpec.ofChange mbapBackWrong)

/-- 'watchkeeperlaw03.MbapPieces': WHATEVER THE INPUT: true; the input reads as it did. -/
def mbapPiecesSpec : ChangeSpec := { name := "mbapPieces", fn := fun _ => fun
  | [d1, d2] => { results := [.lit (.bool true)], args := [d1, d2] }
  | _ => none }
def mbapPiecesRow : OpenClaim := { program := "ytkmmkoiibcdmeaa", sum := "d526a7825375ca2c09cb566402dd3cffdca7cb7f75b2d8126d8f65bd8c887596", func := "watchkeeper/watchkeeperlaw03.MbapPieces", spec := "mbapPieces", unfollowed := true, recurses := true, apart := false }
def MbapPiecesSaid : Prop := mbapPiecesRow.holds Try.pinned (OpenSpec.ofChange mbapPiecesSpec)

/-- ITS FALSE NEIGHBOUR: 'it returns false'. Refute it at one input. -/
def mbapPiecesWrong : ChangeSpec := { name := "mbapPieces", fn := fun _ => fun
  | [d1, d2] => { results := [.lit (.bool false)], args := [d1, d2] }
  | _ => none }
def MbapPiecesWrongFalsely : Prop := mbapPiecesRow.holds Try.pinned (OpenSpec.ofChange mbapPiecesWrong)

/-- 'watchkeeperlaw03.MbapRest': WHATEVER THE INPUT: true; the input reads as it did. -/
def mbapRestSpec : ChangeSpec := { name := "mbapRest", fn := fun _ => fun
  | [d] => { results := [.lit (.bool true)], args := [d] }
  | _ => none }
def mbapRestRow : OpenClaim := { program := "ytkmmkoiibcdmeaa", sum := "d526a7825375ca2c09cb566402dd3cffdca7cb7f75b2d8126d8f65bd8c887596", func := "watchkeeper/watchkeeperlaw03.MbapRest", spec := "mbapRest", unfollowed := true, recurses := true, apart := false }
def MbapRestSaid : Prop := mbapRestRow.holds Try.pinned (OpenSpec.ofChange mbapRestSpec)

/-- ITS FALSE NEIGHBOUR: 'it returns false'. Refute it at one input. -/
def mbapRestWrong : ChangeSpec := { name := "mbapRest", fn := fun _ => fun
  | [d] => { results := [.lit (.bool false)], args := [d] }
  | _ => none }
def MbapRestWrongFalsely : Prop := mbapRestRow.holds Try.pinned (OpenSpec.ofChange mbapRestWrong)

/-- 'watchkeeperlaw03.MbapMany': WHATEVER THE INPUT: true; the input reads as it did. -/
def mbapManySpec : ChangeSpec := { name := "mbapMany", fn := fun _ => fun
  | [d1, d2, d3] => { results := [.lit (.bool true)], args := [d1, d2, d3] }
  | _ => none }
def mbapManyRow : OpenClaim := { program := "ytkmmkoiibcdmeaa", sum := "d526a7825375ca2c09cb566402dd3cffdca7cb7f75b2d8126d8f65bd8c887596", func := "watchkeeper/watchkeeperlaw03.MbapMany", spec := "mbapMany", unfollowed := true, recurses := true, apart := false }
def MbapManySaid : Prop := mbapManyRow.holds Try.pinned (OpenSpec.ofChange mbapManySpec)

/-- ITS FALSE NEIGHBOUR: 'it returns false'. Refute it at one input. -/
def mbapManyWrong : ChangeSpec := { name := "mbapMany", fn := fun _ => fun
  | [d1, d2, d3] => { results := [.lit (.bool false)], args := [d1, d2, d3] }
  | _ => none }
def MbapManyWrongFalsely : Prop := mbapManyRow.holds Try.pinned (OpenSpec.ofChange mbapManyWrong)

/- THE SECOND FORM. 'bulk': how many values and letters a reading holds, each counted each time it is reached (what is shared counts as often as it is met; a slice's spare places count too). A statement '..UptoSaid' is the law's where the arguments, and the package variables that the reading takes, are together of bulk at most 1048576: NARROWER than '..Said'. Prove '..Said' where nothing that the law and all that it calls make is longer than what came in: it says more and counts as full. Else prove '..UptoSaid'. A law counts once. -/
mutual
def uptoBulk {H : Type} : DataW H → Nat
  | .lit (.string bytes) => bytes.length + 1
  | .lit _ => 1
  | .nil => 1
  | .ptr d => uptoBulk d + 1
  | .slice elems spare => uptoBulkAll elems + uptoBulkAll spare + 1
  | .agg parts => uptoBulkAll parts + 1
  | .iface _ d => uptoBulk d + 1
  | .map entries => uptoBulkEntries entries + 1
  | .held _ => 1
def uptoBulkAll {H : Type} : List (DataW H) → Nat
  | [] => 0
  | d :: r => uptoBulk d + uptoBulkAll r
def uptoBulkEntries {H : Type} : List (Lit × DataW H) → Nat
  | [] => 0
  | x :: r => uptoBulkEntry x + uptoBulkEntries r
def uptoBulkEntry {H : Type} : Lit × DataW H → Nat
  | (.string bytes, d) => bytes.length + uptoBulk d + 1
  | (_, d) => uptoBulk d + 1
 end
def uptoSmall : (H : Type) → List (DataW H) → Bool := fun _ ds => decide (uptoBulkAll ds ≤ 1048576)
def OpenSpec.upto (s : _root_.Go.ChangeSpec) : _root_.Go.OpenSpec := { _root_.Go.OpenSpec.ofChange s with cond := some uptoSmall }

/-- 'watchkeeperlaw03.MbapHead', WHERE WHAT IT READS IS OF BULK AT MOST 1048576: true; the input reads as it did. -/
def mbapHeadUptoRow : OpenClaim := { program := "ytkmmkoiibcdmeaa", sum := "d526a7825375ca2c09cb566402dd3cffdca7cb7f75b2d8126d8f65bd8c887596", func := "watchkeeper/watchkeeperlaw03.MbapHead", spec := "mbapHead", apart := false, narrowed := true }
def MbapHeadUptoSaid : Prop := mbapHeadUptoRow.holds Try.pinned (OpenSpec.upto mbapHeadSpec)

/-- 'watchkeeperlaw03.MbapTells', WHERE WHAT IT READS IS OF BULK AT MOST 1048576: true; the input reads as it did. -/
def mbapTellsUptoRow : OpenClaim := { program := "ytkmmkoiibcdmeaa", sum := "d526a7825375ca2c09cb566402dd3cffdca7cb7f75b2d8126d8f65bd8c887596", func := "watchkeeper/watchkeeperlaw03.MbapTells", spec := "mbapTells", unfollowed := true, recurses := true, apart := false, narrowed := true }
def MbapTellsUptoSaid : Prop := mbapTellsUptoRow.holds Try.pinned (OpenSpec.upto mbapTellsSpec)

/-- 'watchkeeperlaw03.MbapBack', WHERE WHAT IT READS IS OF BULK AT MOST 1048576: true; the input reads as it did. -/
def mbapBackUptoRow : OpenClaim := { program := "ytkmmkoiibcdmeaa", sum := "d526a7825375ca2c09cb566402dd3cffdca7cb7f75b2d8126d8f65bd8c887596", func := "watchkeeper/watchkeeperlaw03.MbapBack", spec := "mbapBack", unfollowed := true, recurses := true, apart := false, narrowed := true }
def MbapBackUptoSaid : Prop := mbapBackUptoRow.holds Try.pinned (OpenSpec.upto mbapBackSpec)

/-- 'watchkeeperlaw03.MbapPieces', WHERE WHAT IT READS IS OF BULK AT MOST 1048576: true; the input reads as it did. -/
def mbapPiecesUptoRow : OpenClaim := { program := "ytkmmkoiibcdmeaa", sum := "d526a7825375ca2c09cb566402dd3cffdca7cb7f75b2d8126d8f65bd8c887596", func := "watchkeeper/watchkeeperlaw03.MbapPieces", spec := "mbapPieces", unfollowed := true, recurses := true, apart := false, narrowed := true }
def MbapPiecesUptoSaid : Prop := mbapPiecesUptoRow.holds Try.pinned (OpenSpec.upto mbapPiecesSpec)

/-- 'watchkeeperlaw03.MbapRest', WHERE WHAT IT READS IS OF BULK AT MOST 1048576: true; the input reads as it did. -/
def mbapRestUptoRow : OpenClaim := { program := "ytkmmkoiibcdmeaa", sum := "d526a7825375ca2c09cb566402dd3cffdca7cb7f75b2d8126d8f65bd8c887596", func := "watchkeeper/watchkeeperlaw03.MbapRest", spec := "mbapRest", unfollowed := true, recurses := true, apart := false, narrowed := true }
def MbapRestUptoSaid : Prop := mbapRestUptoRow.holds Try.pinned (OpenSpec.upto mbapRestSpec)

/-- 'watchkeeperlaw03.MbapMany', WHERE WHAT IT READS IS OF BULK AT MOST 1048576: true; the input reads as it did. -/
def mbapManyUptoRow : OpenClaim := { program := "ytkmmkoiibcdmeaa", sum := "d526a7825375ca2c09cb566402dd3cffdca7cb7f75b2d8126d8f65bd8c887596", func := "watchkeeper/watchkeeperlaw03.MbapMany", spec := "mbapMany", unfollowed := true, recurses := true, apart := false, narrowed := true }
def MbapManyUptoSaid : Prop := mbapManyUptoRow.holds Try.pinned (OpenSpec.upto mbapManySpec)

end Rows
end Go.Proofs.Ytkmmkoiibcdmeaa
