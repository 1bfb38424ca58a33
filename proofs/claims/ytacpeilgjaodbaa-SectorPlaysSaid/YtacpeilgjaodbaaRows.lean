/-
  No cell of these rows narrows 'for every input' (looked for: loops, veiled, ifaces, maps, wideKeys, modest, calm, conditions, laid).
  DERIVED. THE GIVEN ROWS OF THIS SEAT. 5 by the template 'for every input the law returns true; each argument reads behind the call as it read before'; 0 by the template 'total and deterministic' (their statements: YtacpeilgjaodbaaTotals.lean).
  GIVEN WITH THE SEED: the statements are not yours to turn. If you find one false, say at which input.
  Laid BY PROGRAM, IN A SANDBOX (cutbox-rows.mjs): the forced cells as the released guide's own fill.sh prints them over the translation ab4507933dd399ad… (all of the seat's roots in one cut). By AI agents, Wed Nov 11 2026. No macro, syntax, notation, axiom, sorry.
-/
import Derived.Test.YtacpeilgjaodbaaChecked
import GoSem.Claim
import GoSem.ClaimJoined
import GoSem.ClaimMapViews
import Derived.JoinedTies
import Derived.KernelRfl
namespace Go.Proofs.Ytacpeilgjaodbaa
/- THE CELL 'sum', in the pinned program and in every row, IS THE sha256 OF THE DUMP (.gsa) THAT YtacpeilgjaodbaaProg.lean LOADS. Nothing in Lean hashes anything: it is a label: what it is worth is what the hold of that sum in a sandbox is worth. -/
noncomputable def Try.pinned : Pinned := { name := "ytacpeilgjaodbaa", sum := "ab4507933dd399ad3331a35305da7bb496d48bc9f12e56d81d288667eaed0633", checked := Try.checked }
namespace Rows
def none {H : Type} : Left H := { results := [], args := [] }

/-- 'watchkeeperlaw10.SectorPlays': WHATEVER THE INPUT: true; the input reads as it did. -/
def sectorPlaysSpec : ChangeSpec := { name := "sectorPlays", fn := fun _ => fun
  | [d1, d2] => { results := [.lit (.bool true)], args := [d1, d2] }
  | _ => none }
def sectorPlaysRow : OpenClaim := { program := "ytacpeilgjaodbaa", sum := "ab4507933dd399ad3331a35305da7bb496d48bc9f12e56d81d288667eaed0633", func := "watchkeeper/watchkeeperlaw10.SectorPlays", spec := "sectorPlays", apart := false }
def SectorPlaysSaid : Prop := sectorPlaysRow.holds Try.pinned (OpenSpec.ofChange sectorPlaysSpec)

/-- ITS FALSE NEIGHBOUR: 'it returns false'. Refute it at one input. -/
def sectorPlaysWrong : ChangeSpec := { name := "sectorPlays", fn := fun _ => fun
  | [d1, d2] => { results := [.lit (.bool false)], args := [d1, d2] }
  | _ => none }
def SectorPlaysWrongFalsely : Prop := sectorPlaysRow.holds Try.pinned (OpenSpec.ofChange sectorPlaysWrong)

/-- 'watchkeeperlaw10.SectorTorn': WHATEVER THE INPUT: true; the input reads as it did. -/
def sectorTornSpec : ChangeSpec := { name := "sectorTorn", fn := fun _ => fun
  | [d1, d2, d3, d4, d5] => { results := [.lit (.bool true)], args := [d1, d2, d3, d4, d5] }
  | _ => none }
def sectorTornRow : OpenClaim := { program := "ytacpeilgjaodbaa", sum := "ab4507933dd399ad3331a35305da7bb496d48bc9f12e56d81d288667eaed0633", func := "watchkeeper/watchkeeperlaw10.SectorTorn", spec := "sectorTorn", apart := false }
def SectorTornSaid : Prop := sectorTornRow.holds Try.pinned (OpenSpec.ofChange sectorTornSpec)

/-- ITS FALSE NEIGHBOUR: 'it returns false'. Refute it at one input. -/
def sectorTornWrong : ChangeSpec := { name := "sectorTorn", fn := fun _ => fun
  | [d1, d2, d3, d4, d5] => { results := [.lit (.bool false)], args := [d1, d2, d3, d4, d5] }
  | _ => none }
def SectorTornWrongFalsely : Prop := sectorTornRow.holds Try.pinned (OpenSpec.ofChange sectorTornWrong)

/-- 'watchkeeperlaw10.SectorStays': WHATEVER THE INPUT: true; the input reads as it did. -/
def sectorStaysSpec : ChangeSpec := { name := "sectorStays", fn := fun _ => fun
  | [d1, d2] => { results := [.lit (.bool true)], args := [d1, d2] }
  | _ => none }
def sectorStaysRow : OpenClaim := { program := "ytacpeilgjaodbaa", sum := "ab4507933dd399ad3331a35305da7bb496d48bc9f12e56d81d288667eaed0633", func := "watchkeeper/watchkeeperlaw10.SectorStays", spec := "sectorStays", apart := false }
def SectorStaysSaid : Prop := sectorStaysRow.holds Try.pinned (OpenSpec.ofChange sectorStaysSpec)

/-- ITS FALSE NEIGHBOUR: 'it returns false'. Refute it at one input. -/
def sectorStaysWrong : ChangeSpec := { name := "sectorStays", fn := fun _ => fun
  | [d1, d2] => { results := [.lit (.bool false)], args := [d1, d2] }
  | _ => none }
def SectorStaysWrongFalsely : Prop := sectorStaysRow.holds Try.pinned (OpenSpec.ofChange sectorStaysWrong)

/-- 'watchkeeperlaw10.SectorCuts': WHATEVER THE INPUT: true; the input reads as it did. -/
def sectorCutsSpec : ChangeSpec := { name := "sectorCuts", fn := fun _ => fun
  | [d1, d2, d3] => { results := [.lit (.bool true)], args := [d1, d2, d3] }
  | _ => none }
def sectorCutsRow : OpenClaim := { program := "ytacpeilgjaodbaa", sum := "ab4507933dd399ad3331a35305da7bb496d48bc9f12e56d81d288667eaed0633", func := "watchkeeper/watchkeeperlaw10.SectorCuts", spec := "sectorCuts", apart := false }
def SectorCutsSaid : Prop := sectorCutsRow.holds Try.pinned (OpenSpec.ofChange sectorCutsSpec)

/-- ITS FALSE NEIGHBOUR: 'it returns false'. Refute it at one input. -/
def sectorCutsWrong : ChangeSpec := { name := "sectorCuts", fn := fun _ => fun
  | [d1, d2, d3] => { results := [.lit (.bool false)], args := [d1, d2, d3] }
  | _ => none }
def SectorCutsWrongFalsely : Prop := sectorCutsRow.holds Try.pinned (OpenSpec.ofChange sectorCutsWrong)

/-- 'watchkeeperlaw10.SectorWrites': WHATEVER THE INPUT: true; the input reads as it did. -/
def sectorWritesSpec : ChangeSpec := { name := "sectorWrites", fn := fun _ => fun
  | [d1, d2] => { results := [.lit (.bool true)], args := [d1, d2] }
  | _ => none }
def sectorWritesRow : OpenClaim := { program := "ytacpeilgjaodbaa", sum := "ab4507933dd399ad3331a35305da7bb496d48bc9f12e56d81d288667eaed0633", func := "watchkeeper/watchkeeperlaw10.SectorWrites", spec := "sectorWrites", apart := false }
def SectorWritesSaid : Prop := sectorWritesRow.holds Try.pinned (OpenSpec.ofChange sectorWritesSpec)

/-- ITS FALSE NEIGHBOUR: 'it returns false'. Refute it at one input. -/
def sectorWritesWrong : ChangeSpec := { name := "sectorWrites", fn := fun _ => fun
  | [d1, d2] => { results := [.lit (.bool false)], args := [d1, d2] }
  | _ => none }
def SectorWritesWrongFalsely : Prop := sectorWritesRow.holds Try.pinned (OpenSpec.ofChange sectorWritesWrong)

/- THE SECOND FORM. 'bulk': how many values and letters a reading holds, each counted each time it is reached (what is shared counts as often as it is met; a slice's spare places count too). A statement '..UptoSaid' is the law's where the arguments, and the package variables that the reading takes, are together of bulk at most 1048576: NARROWER than '..Said'. Prove '..Said' where nothing that the law and all that it calls make is longer than what came in: it says more and counts as full. Else prove '..UptoSaid'. A law counts once. -/
mutual
def uptoBulk {H : Type} : DataW H → Nat
  | .lit (.string bytes) => bytes.length + 1
  | .lit _ => 1
  | .nil => 1
  | .ptr d => uptoBulk d + 1
  | .slice elems spare => uptoBulkAll elems + uptoBulkAll spare + 1
  | .agg parts => uptoBulkAll parts + 1
  | .iface _ d => uptoBulk d + 1
  | .map entries => uptoBulkEntries entries + 1
  | .held _ => 1
def uptoBulkAll {H : Type} : List (DataW H) → Nat
  | [] => 0
  | d :: r => uptoBulk d + uptoBulkAll r
def uptoBulkEntries {H : Type} : List (Lit × DataW H) → Nat
  | [] => 0
  | x :: r => uptoBulkEntry x + uptoBulkEntries r
def uptoBulkEntry {H : Type} : Lit × DataW H → Nat
  | (.string bytes, d) => bytes.length + uptoBulk d + 1
  | (_, d) => uptoBulk d + 1
 end
def uptoSmall : (H : Type) → List (DataW H) → Bool := fun _ ds => decide (uptoBulkAll ds ≤ 1048576)
def OpenSpec.upto (s : _root_.Go.ChangeSpec) : _root_.Go.OpenSpec := { _root_.Go.OpenSpec.ofChange s with cond := some uptoSmall }

/-- 'watchkeeperlaw10.SectorPlays', WHERE WHAT IT READS IS OF BULK AT MOST 1048576: true; the input reads as it did. -/
def sectorPlaysUptoRow : OpenClaim := { program := "ytacpeilgjaodbaa", sum := "ab4507933dd399ad3331a35305da7bb496d48bc9f12e56d81d288667eaed0633", func := "watchkeeper/watchkeeperlaw10.SectorPlays", spec := "sectorPlays", apart := false, narrowed := true }
def SectorPlaysUptoSaid : Prop := sectorPlaysUptoRow.holds Try.pinned (OpenSpec.upto sectorPlaysSpec)

/-- 'watchkeeperlaw10.SectorTorn', WHERE WHAT IT READS IS OF BULK AT MOST 1048576: true; the input reads as it did. -/
def sectorTornUptoRow : OpenClaim := { program := "ytacpeilgjaodbaa", sum := "ab4507933dd399ad3331a35305da7bb496d48bc9f12e56d81d288667eaed0633", func := "watchkeeper/watchkeeperlaw10.SectorTorn", spec := "sectorTorn", apart := false, narrowed := true }
def SectorTornUptoSaid : Prop := sectorTornUptoRow.holds Try.pinned (OpenSpec.upto sectorTornSpec)

/-- 'watchkeeperlaw10.SectorStays', WHERE WHAT IT READS IS OF BULK AT MOST 1048576: true; the input reads as it did. -/
def sectorStaysUptoRow : OpenClaim := { program := "ytacpeilgjaodbaa", sum := "ab4507933dd399ad3331a35305da7bb496d48bc9f12e56d81d288667eaed0633", func := "watchkeeper/watchkeeperlaw10.SectorStays", spec := "sectorStays", apart := false, narrowed := true }
def SectorStaysUptoSaid : Prop := sectorStaysUptoRow.holds Try.pinned (OpenSpec.upto sectorStaysSpec)

/-- 'watchkeeperlaw10.SectorCuts', WHERE WHAT IT READS IS OF BULK AT MOST 1048576: true; the input reads as it did. -/
def sectorCutsUptoRow : OpenClaim := { program := "ytacpeilgjaodbaa", sum := "ab4507933dd399ad3331a35305da7bb496d48bc9f12e56d81d288667eaed0633", func := "watchkeeper/watchkeeperlaw10.SectorCuts", spec := "sectorCuts", apart := false, narrowed := true }
def SectorCutsUptoSaid : Prop := sectorCutsUptoRow.holds Try.pinned (OpenSpec.upto sectorCutsSpec)

/-- 'watchkeeperlaw10.SectorWrites', WHERE WHAT IT READS IS OF BULK AT MOST 1048576: true; the input reads as it did. -/
def sectorWritesUptoRow : OpenClaim := { program := "ytacpeilgjaodbaa", sum := "ab4507933dd399ad3331a35305da7bb496d48bc9f12e56d81d288667eaed0633", func := "watchkeeper/watchkeeperlaw10.SectorWrites", spec := "sectorWrites", apart := false, narrowed := true }
def SectorWritesUptoSaid : Prop := sectorWritesUptoRow.holds Try.pinned (OpenSpec.upto sectorWritesSpec)

end Rows
end Go.Proofs.Ytacpeilgjaodbaa
