/-
  NARROWER THAN 'FOR EVERY INPUT', by the rows' own cells (each row's printed sentence says how): BitsAlgebra: laid · BitsPoints: laid · BitsLists: laid · BitsLaws: laid · BitsSubs: laid · BitsCounts: laid · BitsMoves: laid · BitsBytes: laid · BitsShifts: laid.
  DERIVED. THE GIVEN ROWS OF THIS SEAT. 9 by the template 'for every input the law returns true; each argument reads behind the call as it read before'; 0 by the template 'total and deterministic' (their statements: YtfcmkfdofogenaaDoorTotals.lean).
  GIVEN WITH THE SEED: the statements are not yours to turn. If you find one false, say at which input.
  Laid BY PROGRAM, IN A SANDBOX (cutbox-rows.mjs): the forced cells as the released guide's own fill.sh prints them over the translation 416f78a87692c1e0… (all of the seat's roots in one cut). By AI agents, Wed Nov 11 2026. No macro, syntax, notation, axiom, sorry.
-/
import Derived.Test.YtfcmkfdofogenaaDoorChecked
import GoSem.Claim
import GoSem.ClaimJoined
import GoSem.ClaimMapViews
import Derived.JoinedTies
import Derived.KernelRfl
namespace Go.Proofs.YtfcmkfdofogenaaDoor
/- THE CELL 'sum', in the pinned program and in every row, IS THE sha256 OF THE DUMP (.gsa) THAT YtfcmkfdofogenaaDoorProg.lean LOADS. Nothing in Lean hashes anything: it is a label: what it is worth is what the hold of that sum in a sandbox is worth. -/
noncomputable def Tryd.pinned : Pinned := { name := "ytfcmkfdofogenaadoor", sum := "416f78a87692c1e0b359ecb530a3f26c6bd033ac10e75d89d2822ce0c6a2bfee", checked := Tryd.checked }
namespace Rows
def none {H : Type} : Left H := { results := [], args := [] }

/- WHAT THE LISTED PACKAGE-LEVEL VARIABLES READ AS WHEN THE CALL BEGINS. Each datum BY PROGRAM (the guide's laid-datum.mjs) off the statement by which the dump's own 'gosem.cut.vars' lays the variable. In a bare row this is a premise. The card (YtfcmkfdofogenaaDoorCards.lean) ties it to the program's text. -/
def laid_math_bits_deBruijn64tab {H : Type} : DataW H := .agg [.lit (.int .u8 0), .lit (.int .u8 1), .lit (.int .u8 56), .lit (.int .u8 2), .lit (.int .u8 57), .lit (.int .u8 49), .lit (.int .u8 28), .lit (.int .u8 3), .lit (.int .u8 61), .lit (.int .u8 58), .lit (.int .u8 42), .lit (.int .u8 50), .lit (.int .u8 38), .lit (.int .u8 29), .lit (.int .u8 17), .lit (.int .u8 4), .lit (.int .u8 62), .lit (.int .u8 47), .lit (.int .u8 59), .lit (.int .u8 36), .lit (.int .u8 45), .lit (.int .u8 43), .lit (.int .u8 51), .lit (.int .u8 22), .lit (.int .u8 53), .lit (.int .u8 39), .lit (.int .u8 33), .lit (.int .u8 30), .lit (.int .u8 24), .lit (.int .u8 18), .lit (.int .u8 12), .lit (.int .u8 5), .lit (.int .u8 63), .lit (.int .u8 55), .lit (.int .u8 48), .lit (.int .u8 27), .lit (.int .u8 60), .lit (.int .u8 41), .lit (.int .u8 37), .lit (.int .u8 16), .lit (.int .u8 46), .lit (.int .u8 35), .lit (.int .u8 44), .lit (.int .u8 21), .lit (.int .u8 52), .lit (.int .u8 32), .lit (.int .u8 23), .lit (.int .u8 11), .lit (.int .u8 54), .lit (.int .u8 26), .lit (.int .u8 40), .lit (.int .u8 15), .lit (.int .u8 34), .lit (.int .u8 20), .lit (.int .u8 31), .lit (.int .u8 10), .lit (.int .u8 25), .lit (.int .u8 14), .lit (.int .u8 19), .lit (.int .u8 9), .lit (.int .u8 13), .lit (.int .u8 8), .lit (.int .u8 7), .lit (.int .u8 6)]

/-- 'armaturelaw02.BitsAlgebra': WHATEVER THE INPUT: true; the input reads as it did. -/
def bitsAlgebraSpec : ChangeSpec := { name := "bitsAlgebra", fn := fun _ => fun
  | [d1, d2] => { results := [.lit (.bool true)], args := [d1, d2] }
  | _ => none }
def bitsAlgebraRow : OpenClaim := { program := "ytfcmkfdofogenaadoor", sum := "416f78a87692c1e0b359ecb530a3f26c6bd033ac10e75d89d2822ce0c6a2bfee", func := "armature/armaturelaw02.BitsAlgebra", spec := "bitsAlgebra", named := ["math/bits.deBruijn64tab"], apart := false, laid := [("math/bits.deBruijn64tab", laid_math_bits_deBruijn64tab)] }
def BitsAlgebraSaid : Prop := bitsAlgebraRow.holds Tryd.pinned (OpenSpec.ofChange bitsAlgebraSpec)

/-- ITS FALSE NEIGHBOUR: 'it returns false'. Refute it at one input. -/
def bitsAlgebraWrong : ChangeSpec := { name := "bitsAlgebra", fn := fun _ => fun
  | [d1, d2] => { results := [.lit (.bool false)], args := [d1, d2] }
  | _ => none }
def BitsAlgebraWrongFalsely : Prop := bitsAlgebraRow.holds Tryd.pinned (OpenSpec.ofChange bitsAlgebraWrong)

/-- 'armaturelaw02.BitsPoints': WHATEVER THE INPUT: true; the input reads as it did. -/
def bitsPointsSpec : ChangeSpec := { name := "bitsPoints", fn := fun _ => fun
  | [d1, d2, d3] => { results := [.lit (.bool true)], args := [d1, d2, d3] }
  | _ => none }
def bitsPointsRow : OpenClaim := { program := "ytfcmkfdofogenaadoor", sum := "416f78a87692c1e0b359ecb530a3f26c6bd033ac10e75d89d2822ce0c6a2bfee", func := "armature/armaturelaw02.BitsPoints", spec := "bitsPoints", named := ["math/bits.deBruijn64tab"], apart := false, laid := [("math/bits.deBruijn64tab", laid_math_bits_deBruijn64tab)] }
def BitsPointsSaid : Prop := bitsPointsRow.holds Tryd.pinned (OpenSpec.ofChange bitsPointsSpec)

/-- ITS FALSE NEIGHBOUR: 'it returns false'. Refute it at one input. -/
def bitsPointsWrong : ChangeSpec := { name := "bitsPoints", fn := fun _ => fun
  | [d1, d2, d3] => { results := [.lit (.bool false)], args := [d1, d2, d3] }
  | _ => none }
def BitsPointsWrongFalsely : Prop := bitsPointsRow.holds Tryd.pinned (OpenSpec.ofChange bitsPointsWrong)

/-- 'armaturelaw02.BitsLists': WHATEVER THE INPUT: true; the input reads as it did. -/
def bitsListsSpec : ChangeSpec := { name := "bitsLists", fn := fun _ => fun
  | [d1, d2, d3] => { results := [.lit (.bool true)], args := [d1, d2, d3] }
  | _ => none }
def bitsListsRow : OpenClaim := { program := "ytfcmkfdofogenaadoor", sum := "416f78a87692c1e0b359ecb530a3f26c6bd033ac10e75d89d2822ce0c6a2bfee", func := "armature/armaturelaw02.BitsLists", spec := "bitsLists", named := ["math/bits.deBruijn64tab"], apart := false, laid := [("math/bits.deBruijn64tab", laid_math_bits_deBruijn64tab)] }
def BitsListsSaid : Prop := bitsListsRow.holds Tryd.pinned (OpenSpec.ofChange bitsListsSpec)

/-- ITS FALSE NEIGHBOUR: 'it returns false'. Refute it at one input. -/
def bitsListsWrong : ChangeSpec := { name := "bitsLists", fn := fun _ => fun
  | [d1, d2, d3] => { results := [.lit (.bool false)], args := [d1, d2, d3] }
  | _ => none }
def BitsListsWrongFalsely : Prop := bitsListsRow.holds Tryd.pinned (OpenSpec.ofChange bitsListsWrong)

/-- 'armaturelaw02.BitsLaws': WHATEVER THE INPUT: true; the input reads as it did. -/
def bitsLawsSpec : ChangeSpec := { name := "bitsLaws", fn := fun _ => fun
  | [d1, d2, d3] => { results := [.lit (.bool true)], args := [d1, d2, d3] }
  | _ => none }
def bitsLawsRow : OpenClaim := { program := "ytfcmkfdofogenaadoor", sum := "416f78a87692c1e0b359ecb530a3f26c6bd033ac10e75d89d2822ce0c6a2bfee", func := "armature/armaturelaw02.BitsLaws", spec := "bitsLaws", named := ["math/bits.deBruijn64tab"], apart := false, laid := [("math/bits.deBruijn64tab", laid_math_bits_deBruijn64tab)] }
def BitsLawsSaid : Prop := bitsLawsRow.holds Tryd.pinned (OpenSpec.ofChange bitsLawsSpec)

/-- ITS FALSE NEIGHBOUR: 'it returns false'. Refute it at one input. -/
def bitsLawsWrong : ChangeSpec := { name := "bitsLaws", fn := fun _ => fun
  | [d1, d2, d3] => { results := [.lit (.bool false)], args := [d1, d2, d3] }
  | _ => none }
def BitsLawsWrongFalsely : Prop := bitsLawsRow.holds Tryd.pinned (OpenSpec.ofChange bitsLawsWrong)

/-- 'armaturelaw02.BitsSubs': WHATEVER THE INPUT: true; the input reads as it did. -/
def bitsSubsSpec : ChangeSpec := { name := "bitsSubs", fn := fun _ => fun
  | [d1, d2, d3] => { results := [.lit (.bool true)], args := [d1, d2, d3] }
  | _ => none }
def bitsSubsRow : OpenClaim := { program := "ytfcmkfdofogenaadoor", sum := "416f78a87692c1e0b359ecb530a3f26c6bd033ac10e75d89d2822ce0c6a2bfee", func := "armature/armaturelaw02.BitsSubs", spec := "bitsSubs", inPlace := ["math/bits.Sub64"], named := ["math/bits.deBruijn64tab"], apart := false, laid := [("math/bits.deBruijn64tab", laid_math_bits_deBruijn64tab)] }
def BitsSubsSaid : Prop := bitsSubsRow.holds Tryd.pinned (OpenSpec.ofChange bitsSubsSpec)

/-- ITS FALSE NEIGHBOUR: 'it returns false'. Refute it at one input. -/
def bitsSubsWrong : ChangeSpec := { name := "bitsSubs", fn := fun _ => fun
  | [d1, d2, d3] => { results := [.lit (.bool false)], args := [d1, d2, d3] }
  | _ => none }
def BitsSubsWrongFalsely : Prop := bitsSubsRow.holds Tryd.pinned (OpenSpec.ofChange bitsSubsWrong)

/-- 'armaturelaw02.BitsCounts': WHATEVER THE INPUT: true; the input reads as it did. -/
def bitsCountsSpec : ChangeSpec := { name := "bitsCounts", fn := fun _ => fun
  | [d] => { results := [.lit (.bool true)], args := [d] }
  | _ => none }
def bitsCountsRow : OpenClaim := { program := "ytfcmkfdofogenaadoor", sum := "416f78a87692c1e0b359ecb530a3f26c6bd033ac10e75d89d2822ce0c6a2bfee", func := "armature/armaturelaw02.BitsCounts", spec := "bitsCounts", inPlace := ["math/bits.Sub64"], named := ["math/bits.deBruijn64tab"], apart := false, laid := [("math/bits.deBruijn64tab", laid_math_bits_deBruijn64tab)] }
def BitsCountsSaid : Prop := bitsCountsRow.holds Tryd.pinned (OpenSpec.ofChange bitsCountsSpec)

/-- ITS FALSE NEIGHBOUR: 'it returns false'. Refute it at one input. -/
def bitsCountsWrong : ChangeSpec := { name := "bitsCounts", fn := fun _ => fun
  | [d] => { results := [.lit (.bool false)], args := [d] }
  | _ => none }
def BitsCountsWrongFalsely : Prop := bitsCountsRow.holds Tryd.pinned (OpenSpec.ofChange bitsCountsWrong)

/-- 'armaturelaw02.BitsMoves': WHATEVER THE INPUT: true; the input reads as it did. -/
def bitsMovesSpec : ChangeSpec := { name := "bitsMoves", fn := fun _ => fun
  | [d1, d2, d3] => { results := [.lit (.bool true)], args := [d1, d2, d3] }
  | _ => none }
def bitsMovesRow : OpenClaim := { program := "ytfcmkfdofogenaadoor", sum := "416f78a87692c1e0b359ecb530a3f26c6bd033ac10e75d89d2822ce0c6a2bfee", func := "armature/armaturelaw02.BitsMoves", spec := "bitsMoves", named := ["math/bits.deBruijn64tab"], apart := false, laid := [("math/bits.deBruijn64tab", laid_math_bits_deBruijn64tab)] }
def BitsMovesSaid : Prop := bitsMovesRow.holds Tryd.pinned (OpenSpec.ofChange bitsMovesSpec)

/-- ITS FALSE NEIGHBOUR: 'it returns false'. Refute it at one input. -/
def bitsMovesWrong : ChangeSpec := { name := "bitsMoves", fn := fun _ => fun
  | [d1, d2, d3] => { results := [.lit (.bool false)], args := [d1, d2, d3] }
  | _ => none }
def BitsMovesWrongFalsely : Prop := bitsMovesRow.holds Tryd.pinned (OpenSpec.ofChange bitsMovesWrong)

/-- 'armaturelaw02.BitsBytes': WHATEVER THE INPUT: true; the input reads as it did. -/
def bitsBytesSpec : ChangeSpec := { name := "bitsBytes", fn := fun _ => fun
  | [d1, d2] => { results := [.lit (.bool true)], args := [d1, d2] }
  | _ => none }
def bitsBytesRow : OpenClaim := { program := "ytfcmkfdofogenaadoor", sum := "416f78a87692c1e0b359ecb530a3f26c6bd033ac10e75d89d2822ce0c6a2bfee", func := "armature/armaturelaw02.BitsBytes", spec := "bitsBytes", named := ["math/bits.deBruijn64tab"], apart := false, laid := [("math/bits.deBruijn64tab", laid_math_bits_deBruijn64tab)] }
def BitsBytesSaid : Prop := bitsBytesRow.holds Tryd.pinned (OpenSpec.ofChange bitsBytesSpec)

/-- ITS FALSE NEIGHBOUR: 'it returns false'. Refute it at one input. -/
def bitsBytesWrong : ChangeSpec := { name := "bitsBytes", fn := fun _ => fun
  | [d1, d2] => { results := [.lit (.bool false)], args := [d1, d2] }
  | _ => none }
def BitsBytesWrongFalsely : Prop := bitsBytesRow.holds Tryd.pinned (OpenSpec.ofChange bitsBytesWrong)

/-- 'armaturelaw02.BitsShifts': WHATEVER THE INPUT: true; the input reads as it did. -/
def bitsShiftsSpec : ChangeSpec := { name := "bitsShifts", fn := fun _ => fun
  | [d1, d2, d3] => { results := [.lit (.bool true)], args := [d1, d2, d3] }
  | _ => none }
def bitsShiftsRow : OpenClaim := { program := "ytfcmkfdofogenaadoor", sum := "416f78a87692c1e0b359ecb530a3f26c6bd033ac10e75d89d2822ce0c6a2bfee", func := "armature/armaturelaw02.BitsShifts", spec := "bitsShifts", named := ["math/bits.deBruijn64tab"], apart := false, laid := [("math/bits.deBruijn64tab", laid_math_bits_deBruijn64tab)] }
def BitsShiftsSaid : Prop := bitsShiftsRow.holds Tryd.pinned (OpenSpec.ofChange bitsShiftsSpec)

/-- ITS FALSE NEIGHBOUR: 'it returns false'. Refute it at one input. -/
def bitsShiftsWrong : ChangeSpec := { name := "bitsShifts", fn := fun _ => fun
  | [d1, d2, d3] => { results := [.lit (.bool false)], args := [d1, d2, d3] }
  | _ => none }
def BitsShiftsWrongFalsely : Prop := bitsShiftsRow.holds Tryd.pinned (OpenSpec.ofChange bitsShiftsWrong)

/- THE SECOND FORM. 'bulk': how many values and letters a reading holds, each counted each time it is reached (what is shared counts as often as it is met; a slice's spare places count too). A statement '..UptoSaid' is the law's where the arguments, and the package variables that the reading takes, are together of bulk at most 1048576: NARROWER than '..Said'. Prove '..Said' where nothing that the law and all that it calls make is longer than what came in: it says more and counts as full. Else prove '..UptoSaid'. A law counts once. -/
mutual
def uptoBulk {H : Type} : DataW H → Nat
  | .lit (.string bytes) => bytes.length + 1
  | .lit _ => 1
  | .nil => 1
  | .ptr d => uptoBulk d + 1
  | .slice elems spare => uptoBulkAll elems + uptoBulkAll spare + 1
  | .agg parts => uptoBulkAll parts + 1
  | .iface _ d => uptoBulk d + 1
  | .map entries => uptoBulkEntries entries + 1
  | .held _ => 1
def uptoBulkAll {H : Type} : List (DataW H) → Nat
  | [] => 0
  | d :: r => uptoBulk d + uptoBulkAll r
def uptoBulkEntries {H : Type} : List (Lit × DataW H) → Nat
  | [] => 0
  | x :: r => uptoBulkEntry x + uptoBulkEntries r
def uptoBulkEntry {H : Type} : Lit × DataW H → Nat
  | (.string bytes, d) => bytes.length + uptoBulk d + 1
  | (_, d) => uptoBulk d + 1
 end
def uptoSmall : (H : Type) → List (DataW H) → Bool := fun _ ds => decide (uptoBulkAll ds ≤ 1048576)
def OpenSpec.upto (s : _root_.Go.ChangeSpec) : _root_.Go.OpenSpec := { _root_.Go.OpenSpec.ofChange s with cond := some uptoSmall }

/-- 'armaturelaw02.BitsAlgebra', WHERE WHAT IT READS IS OF BULK AT MOST 1048576: true; the input reads as it did. -/
def bitsAlgebraUptoRow : OpenClaim := { program := "ytfcmkfdofogenaadoor", sum := "416f78a87692c1e0b359ecb530a3f26c6bd033ac10e75d89d2822ce0c6a2bfee", func := "armature/armaturelaw02.BitsAlgebra", spec := "bitsAlgebra", named := ["math/bits.deBruijn64tab"], apart := false, laid := [("math/bits.deBruijn64tab", laid_math_bits_deBruijn64tab)], narrowed := true }
def BitsAlgebraUptoSaid : Prop := bitsAlgebraUptoRow.holds Tryd.pinned (OpenSpec.upto bitsAlgebraSpec)

/-- 'armaturelaw02.BitsPoints', WHERE WHAT IT READS IS OF BULK AT MOST 1048576: true; the input reads as it did. -/
def bitsPointsUptoRow : OpenClaim := { program := "ytfcmkfdofogenaadoor", sum := "416f78a87692c1e0b359ecb530a3f26c6bd033ac10e75d89d2822ce0c6a2bfee", func := "armature/armaturelaw02.BitsPoints", spec := "bitsPoints", named := ["math/bits.deBruijn64tab"], apart := false, laid := [("math/bits.deBruijn64tab", laid_math_bits_deBruijn64tab)], narrowed := true }
def BitsPointsUptoSaid : Prop := bitsPointsUptoRow.holds Tryd.pinned (OpenSpec.upto bitsPointsSpec)

/-- 'armaturelaw02.BitsLists', WHERE WHAT IT READS IS OF BULK AT MOST 1048576: true; the input reads as it did. -/
def bitsListsUptoRow : OpenClaim := { program := "ytfcmkfdofogenaadoor", sum := "416f78a87692c1e0b359ecb530a3f26c6bd033ac10e75d89d2822ce0c6a2bfee", func := "armature/armaturelaw02.BitsLists", spec := "bitsLists", named := ["math/bits.deBruijn64tab"], apart := false, laid := [("math/bits.deBruijn64tab", laid_math_bits_deBruijn64tab)], narrowed := true }
def BitsListsUptoSaid : Prop := bitsListsUptoRow.holds Tryd.pinned (OpenSpec.upto bitsListsSpec)

/-- 'armaturelaw02.BitsLaws', WHERE WHAT IT READS IS OF BULK AT MOST 1048576: true; the input reads as it did. -/
def bitsLawsUptoRow : OpenClaim := { program := "ytfcmkfdofogenaadoor", sum := "416f78a87692c1e0b359ecb530a3f26c6bd033ac10e75d89d2822ce0c6a2bfee", func := "armature/armaturelaw02.BitsLaws", spec := "bitsLaws", named := ["math/bits.deBruijn64tab"], apart := false, laid := [("math/bits.deBruijn64tab", laid_math_bits_deBruijn64tab)], narrowed := true }
def BitsLawsUptoSaid : Prop := bitsLawsUptoRow.holds Tryd.pinned (OpenSpec.upto bitsLawsSpec)

/-- 'armaturelaw02.BitsSubs', WHERE WHAT IT READS IS OF BULK AT MOST 1048576: true; the input reads as it did. -/
def bitsSubsUptoRow : OpenClaim := { program := "ytfcmkfdofogenaadoor", sum := "416f78a87692c1e0b359ecb530a3f26c6bd033ac10e75d89d2822ce0c6a2bfee", func := "armature/armaturelaw02.BitsSubs", spec := "bitsSubs", inPlace := ["math/bits.Sub64"], named := ["math/bits.deBruijn64tab"], apart := false, laid := [("math/bits.deBruijn64tab", laid_math_bits_deBruijn64tab)], narrowed := true }
def BitsSubsUptoSaid : Prop := bitsSubsUptoRow.holds Tryd.pinned (OpenSpec.upto bitsSubsSpec)

/-- 'armaturelaw02.BitsCounts', WHERE WHAT IT READS IS OF BULK AT MOST 1048576: true; the input reads as it did. -/
def bitsCountsUptoRow : OpenClaim := { program := "ytfcmkfdofogenaadoor", sum := "416f78a87692c1e0b359ecb530a3f26c6bd033ac10e75d89d2822ce0c6a2bfee", func := "armature/armaturelaw02.BitsCounts", spec := "bitsCounts", inPlace := ["math/bits.Sub64"], named := ["math/bits.deBruijn64tab"], apart := false, laid := [("math/bits.deBruijn64tab", laid_math_bits_deBruijn64tab)], narrowed := true }
def BitsCountsUptoSaid : Prop := bitsCountsUptoRow.holds Tryd.pinned (OpenSpec.upto bitsCountsSpec)

/-- 'armaturelaw02.BitsMoves', WHERE WHAT IT READS IS OF BULK AT MOST 1048576: true; the input reads as it did. -/
def bitsMovesUptoRow : OpenClaim := { program := "ytfcmkfdofogenaadoor", sum := "416f78a87692c1e0b359ecb530a3f26c6bd033ac10e75d89d2822ce0c6a2bfee", func := "armature/armaturelaw02.BitsMoves", spec := "bitsMoves", named := ["math/bits.deBruijn64tab"], apart := false, laid := [("math/bits.deBruijn64tab", laid_math_bits_deBruijn64tab)], narrowed := true }
def BitsMovesUptoSaid : Prop := bitsMovesUptoRow.holds Tryd.pinned (OpenSpec.upto bitsMovesSpec)

/-- 'armaturelaw02.BitsBytes', WHERE WHAT IT READS IS OF BULK AT MOST 1048576: true; the input reads as it did. -/
def bitsBytesUptoRow : OpenClaim := { program := "ytfcmkfdofogenaadoor", sum := "416f78a87692c1e0b359ecb530a3f26c6bd033ac10e75d89d2822ce0c6a2bfee", func := "armature/armaturelaw02.BitsBytes", spec := "bitsBytes", named := ["math/bits.deBruijn64tab"], apart := false, laid := [("math/bits.deBruijn64tab", laid_math_bits_deBruijn64tab)], narrowed := true }
def BitsBytesUptoSaid : Prop := bitsBytesUptoRow.holds Tryd.pinned (OpenSpec.upto bitsBytesSpec)

/-- 'armaturelaw02.BitsShifts', WHERE WHAT IT READS IS OF BULK AT MOST 1048576: true; the input reads as it did. -/
def bitsShiftsUptoRow : OpenClaim := { program := "ytfcmkfdofogenaadoor", sum := "416f78a87692c1e0b359ecb530a3f26c6bd033ac10e75d89d2822ce0c6a2bfee", func := "armature/armaturelaw02.BitsShifts", spec := "bitsShifts", named := ["math/bits.deBruijn64tab"], apart := false, laid := [("math/bits.deBruijn64tab", laid_math_bits_deBruijn64tab)], narrowed := true }
def BitsShiftsUptoSaid : Prop := bitsShiftsUptoRow.holds Tryd.pinned (OpenSpec.upto bitsShiftsSpec)

end Rows
end Go.Proofs.YtfcmkfdofogenaaDoor
