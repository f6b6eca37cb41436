/-
  No cell of these rows narrows 'for every input' (looked for: loops, veiled, ifaces, maps, wideKeys, modest, calm, conditions, laid).
  DERIVED. THE GIVEN ROWS OF THIS SEAT. 6 by the template 'for every input the law returns true; each argument reads behind the call as it read before'; 0 by the template 'total and deterministic' (their statements: YtmbnmgpipeinfaaTotals.lean).
  GIVEN WITH THE SEED: the statements are not yours to turn. If you find one false, say at which input.
  Laid BY PROGRAM, IN A SANDBOX (cutbox-rows.mjs): the forced cells as the released guide's own fill.sh prints them over the translation 2762e7e083304eb6… (all of the seat's roots in one cut). By AI agents, Wed Nov 11 2026. No macro, syntax, notation, axiom, sorry.
-/
import Derived.Test.YtmbnmgpipeinfaaChecked
import GoSem.Claim
import GoSem.ClaimJoined
import GoSem.ClaimMapViews
import Derived.JoinedTies
import Derived.KernelRfl
namespace Go.Proofs.Ytmbnmgpipeinfaa
/- THE CELL 'sum', in the pinned program and in every row, IS THE sha256 OF THE DUMP (.gsa) THAT YtmbnmgpipeinfaaProg.lean LOADS. Nothing in Lean hashes anything: it is a label: what it is worth is what the hold of that sum in a sandbox is worth. -/
noncomputable def Try.pinned : Pinned := { name := "ytmbnmgpipeinfaa", sum := "2762e7e083304eb60a2b67c2ac38124c092412e520408f845919a61f531210f5", checked := Try.checked }
namespace Rows
def none {H : Type} : Left H := { results := [], args := [] }

/-- 'armaturelaw01.TriExact': WHATEVER THE INPUT: true; the input reads as it did. -/
def triExactSpec : ChangeSpec := { name := "triExact", fn := fun _ => fun
  | [d1, d2, d3] => { results := [.lit (.bool true)], args := [d1, d2, d3] }
  | _ => none }
def triExactRow : OpenClaim := { program := "ytmbnmgpipeinfaa", sum := "2762e7e083304eb60a2b67c2ac38124c092412e520408f845919a61f531210f5", func := "armature/armaturelaw01.TriExact", spec := "triExact", apart := false }
def TriExactSaid : Prop := triExactRow.holds Try.pinned (OpenSpec.ofChange triExactSpec)

/-- ITS FALSE NEIGHBOUR: 'it returns false'. Refute it at one input. -/
def triExactWrong : ChangeSpec := { name := "triExact", fn := fun _ => fun
  | [d1, d2, d3] => { results := [.lit (.bool false)], args := [d1, d2, d3] }
  | _ => none }
def TriExactWrongFalsely : Prop := triExactRow.holds Try.pinned (OpenSpec.ofChange triExactWrong)

/-- 'armaturelaw01.TriLists': WHATEVER THE INPUT: true; the input reads as it did. -/
def triListsSpec : ChangeSpec := { name := "triLists", fn := fun _ => fun
  | [d] => { results := [.lit (.bool true)], args := [d] }
  | _ => none }
def triListsRow : OpenClaim := { program := "ytmbnmgpipeinfaa", sum := "2762e7e083304eb60a2b67c2ac38124c092412e520408f845919a61f531210f5", func := "armature/armaturelaw01.TriLists", spec := "triLists", apart := false }
def TriListsSaid : Prop := triListsRow.holds Try.pinned (OpenSpec.ofChange triListsSpec)

/-- ITS FALSE NEIGHBOUR: 'it returns false'. Refute it at one input. -/
def triListsWrong : ChangeSpec := { name := "triLists", fn := fun _ => fun
  | [d] => { results := [.lit (.bool false)], args := [d] }
  | _ => none }
def TriListsWrongFalsely : Prop := triListsRow.holds Try.pinned (OpenSpec.ofChange triListsWrong)

/-- 'armaturelaw01.TriSplits': WHATEVER THE INPUT: true; the input reads as it did. -/
def triSplitsSpec : ChangeSpec := { name := "triSplits", fn := fun _ => fun
  | [d1, d2] => { results := [.lit (.bool true)], args := [d1, d2] }
  | _ => none }
def triSplitsRow : OpenClaim := { program := "ytmbnmgpipeinfaa", sum := "2762e7e083304eb60a2b67c2ac38124c092412e520408f845919a61f531210f5", func := "armature/armaturelaw01.TriSplits", spec := "triSplits", apart := false }
def TriSplitsSaid : Prop := triSplitsRow.holds Try.pinned (OpenSpec.ofChange triSplitsSpec)

/-- ITS FALSE NEIGHBOUR: 'it returns false'. Refute it at one input. -/
def triSplitsWrong : ChangeSpec := { name := "triSplits", fn := fun _ => fun
  | [d1, d2] => { results := [.lit (.bool false)], args := [d1, d2] }
  | _ => none }
def TriSplitsWrongFalsely : Prop := triSplitsRow.holds Try.pinned (OpenSpec.ofChange triSplitsWrong)

/-- 'armaturelaw01.TriTurns': WHATEVER THE INPUT: true; the input reads as it did. -/
def triTurnsSpec : ChangeSpec := { name := "triTurns", fn := fun _ => fun
  | [d1, d2] => { results := [.lit (.bool true)], args := [d1, d2] }
  | _ => none }
def triTurnsRow : OpenClaim := { program := "ytmbnmgpipeinfaa", sum := "2762e7e083304eb60a2b67c2ac38124c092412e520408f845919a61f531210f5", func := "armature/armaturelaw01.TriTurns", spec := "triTurns", apart := false }
def TriTurnsSaid : Prop := triTurnsRow.holds Try.pinned (OpenSpec.ofChange triTurnsSpec)

/-- ITS FALSE NEIGHBOUR: 'it returns false'. Refute it at one input. -/
def triTurnsWrong : ChangeSpec := { name := "triTurns", fn := fun _ => fun
  | [d1, d2] => { results := [.lit (.bool false)], args := [d1, d2] }
  | _ => none }
def TriTurnsWrongFalsely : Prop := triTurnsRow.holds Try.pinned (OpenSpec.ofChange triTurnsWrong)

/-- 'armaturelaw01.TriGrows': WHATEVER THE INPUT: true; the input reads as it did. -/
def triGrowsSpec : ChangeSpec := { name := "triGrows", fn := fun _ => fun
  | [d1, d2, d3] => { results := [.lit (.bool true)], args := [d1, d2, d3] }
  | _ => none }
def triGrowsRow : OpenClaim := { program := "ytmbnmgpipeinfaa", sum := "2762e7e083304eb60a2b67c2ac38124c092412e520408f845919a61f531210f5", func := "armature/armaturelaw01.TriGrows", spec := "triGrows", apart := false }
def TriGrowsSaid : Prop := triGrowsRow.holds Try.pinned (OpenSpec.ofChange triGrowsSpec)

/-- ITS FALSE NEIGHBOUR: 'it returns false'. Refute it at one input. -/
def triGrowsWrong : ChangeSpec := { name := "triGrows", fn := fun _ => fun
  | [d1, d2, d3] => { results := [.lit (.bool false)], args := [d1, d2, d3] }
  | _ => none }
def TriGrowsWrongFalsely : Prop := triGrowsRow.holds Try.pinned (OpenSpec.ofChange triGrowsWrong)

/-- 'armaturelaw01.TriTables': WHATEVER THE INPUT: true; the input reads as it did. -/
def triTablesSpec : ChangeSpec := { name := "triTables", fn := fun _ => fun
  | [d1, d2, d3] => { results := [.lit (.bool true)], args := [d1, d2, d3] }
  | _ => none }
def triTablesRow : OpenClaim := { program := "ytmbnmgpipeinfaa", sum := "2762e7e083304eb60a2b67c2ac38124c092412e520408f845919a61f531210f5", func := "armature/armaturelaw01.TriTables", spec := "triTables", apart := false }
def TriTablesSaid : Prop := triTablesRow.holds Try.pinned (OpenSpec.ofChange triTablesSpec)

/-- ITS FALSE NEIGHBOUR: 'it returns false'. Refute it at one input. -/
def triTablesWrong : ChangeSpec := { name := "triTables", fn := fun _ => fun
  | [d1, d2, d3] => { results := [.lit (.bool false)], args := [d1, d2, d3] }
  | _ => none }
def TriTablesWrongFalsely : Prop := triTablesRow.holds Try.pinned (OpenSpec.ofChange triTablesWrong)

/- THE SECOND FORM. 'bulk': how many values and letters a reading holds, each counted each time it is reached (what is shared counts as often as it is met; a slice's spare places count too). A statement '..UptoSaid' is the law's where the arguments, and the package variables that the reading takes, are together of bulk at most 1048576: NARROWER than '..Said'. Prove '..Said' where nothing that the law and all that it calls make is longer than what came in: it says more and counts as full. Else prove '..UptoSaid'. A law counts once. -/
mutual
def uptoBulk {H : Type} : DataW H → Nat
  | .lit (.string bytes) => bytes.length + 1
  | .lit _ => 1
  | .nil => 1
  | .ptr d => uptoBulk d + 1
  | .slice elems spare => uptoBulkAll elems + uptoBulkAll spare + 1
  | .agg parts => uptoBulkAll parts + 1
  | .iface _ d => uptoBulk d + 1
  | .map entries => uptoBulkEntries entries + 1
  | .held _ => 1
def uptoBulkAll {H : Type} : List (DataW H) → Nat
  | [] => 0
  | d :: r => uptoBulk d + uptoBulkAll r
def uptoBulkEntries {H : Type} : List (Lit × DataW H) → Nat
  | [] => 0
  | x :: r => uptoBulkEntry x + uptoBulkEntries r
def uptoBulkEntry {H : Type} : Lit × DataW H → Nat
  | (.string bytes, d) => bytes.length + uptoBulk d + 1
  | (_, d) => uptoBulk d + 1
 end
def uptoSmall : (H : Type) → List (DataW H) → Bool := fun _ ds => decide (uptoBulkAll ds ≤ 1048576)
def OpenSpec.upto (s : _root_.Go.ChangeSpec) : _root_.Go.OpenSpec := { _root_.Go.OpenSpec.ofChange s with cond := some uptoSmall }

/-- 'armaturelaw01.TriExact', WHERE WHAT IT READS IS OF BULK AT MOST 1048576: true; the input reads as it did. -/
def triExactUptoRow : OpenClaim := { program := "ytmbnmgpipeinfaa", sum := "2762e7e083304eb60a2b67c2ac38124c092412e520408f845919a61f531210f5", func := "armature/armaturelaw01.TriExact", spec := "triExact", apart := false, narrowed := true }
def TriExactUptoSaid : Prop := triExactUptoRow.holds Try.pinned (OpenSpec.upto triExactSpec)

/-- 'armaturelaw01.TriLists', WHERE WHAT IT READS IS OF BULK AT MOST 1048576: true; the input reads as it did. -/
def triListsUptoRow : OpenClaim := { program := "ytmbnmgpipeinfaa", sum := "2762e7e083304eb60a2b67c2ac38124c092412e520408f845919a61f531210f5", func := "armature/armaturelaw01.TriLists", spec := "triLists", apart := false, narrowed := true }
def TriListsUptoSaid : Prop := triListsUptoRow.holds Try.pinned (OpenSpec.upto triListsSpec)

/-- 'armaturelaw01.TriSplits', WHERE WHAT IT READS IS OF BULK AT MOST 1048576: true; the input reads as it did. -/
def triSplitsUptoRow : OpenClaim := { program := "ytmbnmgpipeinfaa", sum := "2762e7e083304eb60a2b67c2ac38124c092412e520408f845919a61f531210f5", func := "armature/armaturelaw01.TriSplits", spec := "triSplits", apart := false, narrowed := true }
def TriSplitsUptoSaid : Prop := triSplitsUptoRow.holds Try.pinned (OpenSpec.upto triSplitsSpec)

/-- 'armaturelaw01.TriTurns', WHERE WHAT IT READS IS OF BULK AT MOST 1048576: true; the input reads as it did. -/
def triTurnsUptoRow : OpenClaim := { program := "ytmbnmgpipeinfaa", sum := "2762e7e083304eb60a2b67c2ac38124c092412e520408f845919a61f531210f5", func := "armature/armaturelaw01.TriTurns", spec := "triTurns", apart := false, narrowed := true }
def TriTurnsUptoSaid : Prop := triTurnsUptoRow.holds Try.pinned (OpenSpec.upto triTurnsSpec)

/-- 'armaturelaw01.TriGrows', WHERE WHAT IT READS IS OF BULK AT MOST 1048576: true; the input reads as it did. -/
def triGrowsUptoRow : OpenClaim := { program := "ytmbnmgpipeinfaa", sum := "2762e7e083304eb60a2b67c2ac38124c092412e520408f845919a61f531210f5", func := "armature/armaturelaw01.TriGrows", spec := "triGrows", apart := false, narrowed := true }
def TriGrowsUptoSaid : Prop := triGrowsUptoRow.holds Try.pinned (OpenSpec.upto triGrowsSpec)

/-- 'armaturelaw01.TriTables', WHERE WHAT IT READS IS OF BULK AT MOST 1048576: true; the input reads as it did. -/
def triTablesUptoRow : OpenClaim := { program := "ytmbnmgpipeinfaa", sum := "2762e7e083304eb60a2b67c2ac38124c092412e520408f845919a61f531210f5", func := "armature/armaturelaw01.TriTables", spec := "triTables", apart := false, narrowed := true }
def TriTablesUptoSaid : Prop := triTablesUptoRow.holds Try.pinned (OpenSpec.upto triTablesSpec)

end Rows
end Go.Proofs.Ytmbnmgpipeinfaa
