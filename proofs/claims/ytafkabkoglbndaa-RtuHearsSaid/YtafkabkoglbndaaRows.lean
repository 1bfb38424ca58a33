/-
  No cell of these rows narrows 'for every input' (looked for: loops, veiled, ifaces, maps, wideKeys, modest, calm, conditions, laid).
  DERIVED. THE GIVEN ROWS OF THIS SEAT. 6 by the template 'for every input the law returns true; each argument reads behind the call as it read before'; 0 by the template 'total and deterministic' (their statements: YtafkabkoglbndaaTotals.lean).
  GIVEN WITH THE SEED: the statements are not yours to turn. If you find one false, say at which input.
  Laid BY PROGRAM, IN A SANDBOX (cutbox-rows.mjs): the forced cells as the released guide's own fill.sh prints them over the translation 6811dfdeec7bcd64… (all of the seat's roots in one cut). By AI agents, Wed Nov 11 2026. No macro, syntax, notation, axiom, sorry.
-/
import Derived.Test.YtafkabkoglbndaaChecked
import GoSem.Claim
import GoSem.ClaimJoined
import GoSem.ClaimMapViews
import Derived.JoinedTies
import Derived.KernelRfl
namespace Go.Proofs.Ytafkabkoglbndaa
/- THE CELL 'sum', in the pinned program and in every row, IS THE sha256 OF THE DUMP (.gsa) THAT YtafkabkoglbndaaProg.lean LOADS. Nothing in Lean hashes anything: it is a label: what it is worth is what the hold of that sum in a sandbox is worth. -/
noncomputable def Try.pinned : Pinned := { name := "ytafkabkoglbndaa", sum := "6811dfdeec7bcd6425bbd993d052ed545c939969475953ae32c65c9c11621a2b", checked := Try.checked }
namespace Rows
def none {H : Type} : Left H := { results := [], args := [] }

/-- 'watchkeeperlaw02.RtuTells': WHATEVER THE INPUT: true; the input reads as it did. -/
def rtuTellsSpec : ChangeSpec := { name := "rtuTells", fn := fun _ => fun
  | [d1, d2] => { results := [.lit (.bool true)], args := [d1, d2] }
  | _ => none }
def rtuTellsRow : OpenClaim := { program := "ytafkabkoglbndaa", sum := "6811dfdeec7bcd6425bbd993d052ed545c939969475953ae32c65c9c11621a2b", func := "watchkeeper/watchkeeperlaw02.RtuTells", spec := "rtuTells", apart := false }
def RtuTellsSaid : Prop := rtuTellsRow.holds Try.pinned (OpenSpec.ofChange rtuTellsSpec)

/-- ITS FALSE NEIGHBOUR: 'it returns false'. Refute it at one input. -/
def rtuTellsWrong : ChangeSpec := { name := "rtuTells", fn := fun _ => fun
  | [d1, d2] => { results := [.lit (.bool false)], args := [d1, d2] }
  | _ => none }
def RtuTellsWrongFalsely : Prop := rtuTellsRow.holds Try.pinned (OpenSpec.ofChange rtuTellsWrong)

/-- 'watchkeeperlaw02.RtuBack': WHATEVER THE INPUT: true; the input reads as it did. -/
def rtuBackSpec : ChangeSpec := { name := "rtuBack", fn := fun _ => fun
  | [d1, d2] => { results := [.lit (.bool true)], args := [d1, d2] }
  | _ => none }
def rtuBackRow : OpenClaim := { program := "ytafkabkoglbndaa", sum := "6811dfdeec7bcd6425bbd993d052ed545c939969475953ae32c65c9c11621a2b", func := "watchkeeper/watchkeeperlaw02.RtuBack", spec := "rtuBack", apart := false }
def RtuBackSaid : Prop := rtuBackRow.holds Try.pinned (OpenSpec.ofChange rtuBackSpec)

/-- ITS FALSE NEIGHBOUR: 'it returns false'. Refute it at one input. -/
def rtuBackWrong : ChangeSpec := { name := "rtuBack", fn := fun _ => fun
  | [d1, d2] => { results := [.lit (.bool false)], args := [d1, d2] }
  | _ => none }
def RtuBackWrongFalsely : Prop := rtuBackRow.holds Try.pinned (OpenSpec.ofChange rtuBackWrong)

/-- 'watchkeeperlaw02.RtuHears': WHATEVER THE INPUT: true; the input reads as it did. -/
def rtuHearsSpec : ChangeSpec := { name := "rtuHears", fn := fun _ => fun
  | [d] => { results := [.lit (.bool true)], args := [d] }
  | _ => none }
def rtuHearsRow : OpenClaim := { program := "ytafkabkoglbndaa", sum := "6811dfdeec7bcd6425bbd993d052ed545c939969475953ae32c65c9c11621a2b", func := "watchkeeper/watchkeeperlaw02.RtuHears", spec := "rtuHears", apart := false }
def RtuHearsSaid : Prop := rtuHearsRow.holds Try.pinned (OpenSpec.ofChange rtuHearsSpec)

/-- ITS FALSE NEIGHBOUR: 'it returns false'. Refute it at one input. -/
def rtuHearsWrong : ChangeSpec := { name := "rtuHears", fn := fun _ => fun
  | [d] => { results := [.lit (.bool false)], args := [d] }
  | _ => none }
def RtuHearsWrongFalsely : Prop := rtuHearsRow.holds Try.pinned (OpenSpec.ofChange rtuHearsWrong)

/-- 'watchkeeperlaw02.RtuPieces': WHATEVER THE INPUT: true; the input reads as it did. -/
def rtuPiecesSpec : ChangeSpec := { name := "rtuPieces", fn := fun _ => fun
  | [d1, d2, d3] => { results := [.lit (.bool true)], args := [d1, d2, d3] }
  | _ => none }
def rtuPiecesRow : OpenClaim := { program := "ytafkabkoglbndaa", sum := "6811dfdeec7bcd6425bbd993d052ed545c939969475953ae32c65c9c11621a2b", func := "watchkeeper/watchkeeperlaw02.RtuPieces", spec := "rtuPieces", apart := false }
def RtuPiecesSaid : Prop := rtuPiecesRow.holds Try.pinned (OpenSpec.ofChange rtuPiecesSpec)

/-- ITS FALSE NEIGHBOUR: 'it returns false'. Refute it at one input. -/
def rtuPiecesWrong : ChangeSpec := { name := "rtuPieces", fn := fun _ => fun
  | [d1, d2, d3] => { results := [.lit (.bool false)], args := [d1, d2, d3] }
  | _ => none }
def RtuPiecesWrongFalsely : Prop := rtuPiecesRow.holds Try.pinned (OpenSpec.ofChange rtuPiecesWrong)

/-- 'watchkeeperlaw02.RtuSpoilt': WHATEVER THE INPUT: true; the input reads as it did. -/
def rtuSpoiltSpec : ChangeSpec := { name := "rtuSpoilt", fn := fun _ => fun
  | [d1, d2, d3, d4] => { results := [.lit (.bool true)], args := [d1, d2, d3, d4] }
  | _ => none }
def rtuSpoiltRow : OpenClaim := { program := "ytafkabkoglbndaa", sum := "6811dfdeec7bcd6425bbd993d052ed545c939969475953ae32c65c9c11621a2b", func := "watchkeeper/watchkeeperlaw02.RtuSpoilt", spec := "rtuSpoilt", apart := false }
def RtuSpoiltSaid : Prop := rtuSpoiltRow.holds Try.pinned (OpenSpec.ofChange rtuSpoiltSpec)

/-- ITS FALSE NEIGHBOUR: 'it returns false'. Refute it at one input. -/
def rtuSpoiltWrong : ChangeSpec := { name := "rtuSpoilt", fn := fun _ => fun
  | [d1, d2, d3, d4] => { results := [.lit (.bool false)], args := [d1, d2, d3, d4] }
  | _ => none }
def RtuSpoiltWrongFalsely : Prop := rtuSpoiltRow.holds Try.pinned (OpenSpec.ofChange rtuSpoiltWrong)

/-- 'watchkeeperlaw02.RtuTwo': WHATEVER THE INPUT: true; the input reads as it did. -/
def rtuTwoSpec : ChangeSpec := { name := "rtuTwo", fn := fun _ => fun
  | [d1, d2, d3] => { results := [.lit (.bool true)], args := [d1, d2, d3] }
  | _ => none }
def rtuTwoRow : OpenClaim := { program := "ytafkabkoglbndaa", sum := "6811dfdeec7bcd6425bbd993d052ed545c939969475953ae32c65c9c11621a2b", func := "watchkeeper/watchkeeperlaw02.RtuTwo", spec := "rtuTwo", apart := false }
def RtuTwoSaid : Prop := rtuTwoRow.holds Try.pinned (OpenSpec.ofChange rtuTwoSpec)

/-- ITS FALSE NEIGHBOUR: 'it returns false'. Refute it at one input. -/
def rtuTwoWrong : ChangeSpec := { name := "rtuTwo", fn := fun _ => fun
  | [d1, d2, d3] => { results := [.lit (.bool false)], args := [d1, d2, d3] }
  | _ => none }
def RtuTwoWrongFalsely : Prop := rtuTwoRow.holds Try.pinned (OpenSpec.ofChange rtuTwoWrong)

/- THE SECOND FORM. 'bulk': how many values and letters a reading holds, each counted each time it is reached (what is shared counts as often as it is met; a slice's spare places count too). A statement '..UptoSaid' is the law's where the arguments, and the package variables that the reading takes, are together of bulk at most 1048576: NARROWER than '..Said'. Prove '..Said' where nothing that the law and all that it calls make is longer than what came in: it says more and counts as full. Else prove '..UptoSaid'. A law counts once. -/
mutual
def uptoBulk {H : Type} : DataW H → Nat
  | .lit (.string bytes) => bytes.length + 1
  | .lit _ => 1
  | .nil => 1
  | .ptr d => uptoBulk d + 1
  | .slice elems spare => uptoBulkAll elems + uptoBulkAll spare + 1
  | .agg parts => uptoBulkAll parts + 1
  | .iface _ d => uptoBulk d + 1
  | .map entries => uptoBulkEntries entries + 1
  | .held _ => 1
def uptoBulkAll {H : Type} : List (DataW H) → Nat
  | [] => 0
  | d :: r => uptoBulk d + uptoBulkAll r
def uptoBulkEntries {H : Type} : List (Lit × DataW H) → Nat
  | [] => 0
  | x :: r => uptoBulkEntry x + uptoBulkEntries r
def uptoBulkEntry {H : Type} : Lit × DataW H → Nat
  | (.string bytes, d) => bytes.length + uptoBulk d + 1
  | (_, d) => uptoBulk d + 1
 end
def uptoSmall : (H : Type) → List (DataW H) → Bool := fun _ ds => decide (uptoBulkAll ds ≤ 1048576)
def OpenSpec.upto (s : _root_.Go.ChangeSpec) : _root_.Go.OpenSpec := { _root_.Go.OpenSpec.ofChange s with cond := some uptoSmall }

/-- 'watchkeeperlaw02.RtuTells', WHERE WHAT IT READS IS OF BULK AT MOST 1048576: true; the input reads as it did. -/
def rtuTellsUptoRow : OpenClaim := { program := "ytafkabkoglbndaa", sum := "6811dfdeec7bcd6425bbd993d052ed545c939969475953ae32c65c9c11621a2b", func := "watchkeeper/watchkeeperlaw02.RtuTells", spec := "rtuTells", apart := false, narrowed := true }
def RtuTellsUptoSaid : Prop := rtuTellsUptoRow.holds Try.pinned (OpenSpec.upto rtuTellsSpec)

/-- 'watchkeeperlaw02.RtuBack', WHERE WHAT IT READS IS OF BULK AT MOST 1048576: true; the input reads as it did. -/
def rtuBackUptoRow : OpenClaim := { program := "ytafkabkoglbndaa", sum := "6811dfdeec7bcd6425bbd993d052ed545c939969475953ae32c65c9c11621a2b", func := "watchkeeper/watchkeeperlaw02.RtuBack", spec := "rtuBack", apart := false, narrowed := true }
def RtuBackUptoSaid : Prop := rtuBackUptoRow.holds Try.pinned (OpenSpec.upto rtuBackSpec)

/-- 'watchkeeperlaw02.RtuHears', WHERE WHAT IT READS IS OF BULK AT MOST 1048576: true; the input reads as it did. -/
def rtuHearsUptoRow : OpenClaim := { program := "ytafkabkoglbndaa", sum := "6811dfdeec7bcd6425bbd993d052ed545c939969475953ae32c65c9c11621a2b", func := "watchkeeper/watchkeeperlaw02.RtuHears", spec := "rtuHears", apart := false, narrowed := true }
def RtuHearsUptoSaid : Prop := rtuHearsUptoRow.holds Try.pinned (OpenSpec.upto rtuHearsSpec)

/-- 'watchkeeperlaw02.RtuPieces', WHERE WHAT IT READS IS OF BULK AT MOST 1048576: true; the input reads as it did. -/
def rtuPiecesUptoRow : OpenClaim := { program := "ytafkabkoglbndaa", sum := "6811dfdeec7bcd6425bbd993d052ed545c939969475953ae32c65c9c11621a2b", func := "watchkeeper/watchkeeperlaw02.RtuPieces", spec := "rtuPieces", apart := false, narrowed := true }
def RtuPiecesUptoSaid : Prop := rtuPiecesUptoRow.holds Try.pinned (OpenSpec.upto rtuPiecesSpec)

/-- 'watchkeeperlaw02.RtuSpoilt', WHERE WHAT IT READS IS OF BULK AT MOST 1048576: true; the input reads as it did. -/
def rtuSpoiltUptoRow : OpenClaim := { program := "ytafkabkoglbndaa", sum := "6811dfdeec7bcd6425bbd993d052ed545c939969475953ae32c65c9c11621a2b", func := "watchkeeper/watchkeeperlaw02.RtuSpoilt", spec := "rtuSpoilt", apart := false, narrowed := true }
def RtuSpoiltUptoSaid : Prop := rtuSpoiltUptoRow.holds Try.pinned (OpenSpec.upto rtuSpoiltSpec)

/-- 'watchkeeperlaw02.RtuTwo', WHERE WHAT IT READS IS OF BULK AT MOST 1048576: true; the input reads as it did. -/
def rtuTwoUptoRow : OpenClaim := { program := "ytafkabkoglbndaa", sum := "6811dfdeec7bcd6425bbd993d052ed545c939969475953ae32c65c9c11621a2b", func := "watchkeeper/watchkeeperlaw02.RtuTwo", spec := "rtuTwo", apart := false, narrowed := true }
def RtuTwoUptoSaid : Prop := rtuTwoUptoRow.holds Try.pinned (OpenSpec.upto rtuTwoSpec)

end Rows
end Go.Proofs.Ytafkabkoglbndaa
