/-
  DERIVED. GIVEN WITH THE SEED: THE CARDS: each row of YtfcmkfdofogenaaDoorRows.lean that lists a variable, with what it lists TIED to the program's text (the seventh form; the later family's looks); each row that meets fmt, with fmt's text TOLD by the authors' own Lean function (tested against real Go, not proved from fmt's source: count such statements apart). THE CARD IS WHAT COUNTS. Prove the row's statement (the work); the ties are given (YtfcmkfdofogenaaDoorTie.lean); close each card by the builder's one call (the guide's Derived/Test/ToyasCard.lean, 'card_holds'). Laid BY PROGRAM, IN A SANDBOX (cutbox-door.mjs). By AI agents, Wed Nov 11 2026. No macro, syntax, notation, axiom, sorry.
-/
import Derived.Test.YtfcmkfdofogenaaDoorRows
import GoSem.ClaimSeven
namespace Go.Proofs.YtfcmkfdofogenaaDoor
namespace Rows

/-- THE TIED CARD OF 'armaturelaw02.BitsAlgebra'. -/
def bitsAlgebraCard : Claim7 := { stood := { row := bitsAlgebraRow, standIns := [], harness := (true, "5177bd8b41ef25d15c14ec800e1b4ba281347f098507ab5a349e4a3af5f78f08"), looks := false }, kinds := [], alts := [], laidByText := true, laidKinds := [.data], laidTests := true, laidLooks := .later }
def BitsAlgebraCardSaid : Prop := Claim7.holds Tryd.pinned (.plain (OpenSpec.ofChange bitsAlgebraSpec)) bitsAlgebraCard

/-- THE TIED CARD OF 'armaturelaw02.BitsPoints'. -/
def bitsPointsCard : Claim7 := { stood := { row := bitsPointsRow, standIns := [], harness := (true, "5177bd8b41ef25d15c14ec800e1b4ba281347f098507ab5a349e4a3af5f78f08"), looks := false }, kinds := [], alts := [], laidByText := true, laidKinds := [.data], laidTests := true, laidLooks := .later }
def BitsPointsCardSaid : Prop := Claim7.holds Tryd.pinned (.plain (OpenSpec.ofChange bitsPointsSpec)) bitsPointsCard

/-- THE TIED CARD OF 'armaturelaw02.BitsLists'. -/
def bitsListsCard : Claim7 := { stood := { row := bitsListsRow, standIns := [], harness := (true, "5177bd8b41ef25d15c14ec800e1b4ba281347f098507ab5a349e4a3af5f78f08"), looks := false }, kinds := [], alts := [], laidByText := true, laidKinds := [.data], laidTests := true, laidLooks := .later }
def BitsListsCardSaid : Prop := Claim7.holds Tryd.pinned (.plain (OpenSpec.ofChange bitsListsSpec)) bitsListsCard

/-- THE TIED CARD OF 'armaturelaw02.BitsLaws'. -/
def bitsLawsCard : Claim7 := { stood := { row := bitsLawsRow, standIns := [], harness := (true, "5177bd8b41ef25d15c14ec800e1b4ba281347f098507ab5a349e4a3af5f78f08"), looks := false }, kinds := [], alts := [], laidByText := true, laidKinds := [.data], laidTests := true, laidLooks := .later }
def BitsLawsCardSaid : Prop := Claim7.holds Tryd.pinned (.plain (OpenSpec.ofChange bitsLawsSpec)) bitsLawsCard

/-- THE TIED CARD OF 'armaturelaw02.BitsSubs'. -/
def bitsSubsCard : Claim7 := { stood := { row := bitsSubsRow, standIns := [], harness := (true, "5177bd8b41ef25d15c14ec800e1b4ba281347f098507ab5a349e4a3af5f78f08"), looks := false }, kinds := [], alts := [], laidByText := true, laidKinds := [.data], laidTests := true, laidLooks := .later }
def BitsSubsCardSaid : Prop := Claim7.holds Tryd.pinned (.plain (OpenSpec.ofChange bitsSubsSpec)) bitsSubsCard

/-- THE TIED CARD OF 'armaturelaw02.BitsCounts'. -/
def bitsCountsCard : Claim7 := { stood := { row := bitsCountsRow, standIns := [], harness := (true, "5177bd8b41ef25d15c14ec800e1b4ba281347f098507ab5a349e4a3af5f78f08"), looks := false }, kinds := [], alts := [], laidByText := true, laidKinds := [.data], laidTests := true, laidLooks := .later }
def BitsCountsCardSaid : Prop := Claim7.holds Tryd.pinned (.plain (OpenSpec.ofChange bitsCountsSpec)) bitsCountsCard

/-- THE TIED CARD OF 'armaturelaw02.BitsMoves'. -/
def bitsMovesCard : Claim7 := { stood := { row := bitsMovesRow, standIns := [], harness := (true, "5177bd8b41ef25d15c14ec800e1b4ba281347f098507ab5a349e4a3af5f78f08"), looks := false }, kinds := [], alts := [], laidByText := true, laidKinds := [.data], laidTests := true, laidLooks := .later }
def BitsMovesCardSaid : Prop := Claim7.holds Tryd.pinned (.plain (OpenSpec.ofChange bitsMovesSpec)) bitsMovesCard

/-- THE TIED CARD OF 'armaturelaw02.BitsBytes'. -/
def bitsBytesCard : Claim7 := { stood := { row := bitsBytesRow, standIns := [], harness := (true, "5177bd8b41ef25d15c14ec800e1b4ba281347f098507ab5a349e4a3af5f78f08"), looks := false }, kinds := [], alts := [], laidByText := true, laidKinds := [.data], laidTests := true, laidLooks := .later }
def BitsBytesCardSaid : Prop := Claim7.holds Tryd.pinned (.plain (OpenSpec.ofChange bitsBytesSpec)) bitsBytesCard

/-- THE TIED CARD OF 'armaturelaw02.BitsShifts'. -/
def bitsShiftsCard : Claim7 := { stood := { row := bitsShiftsRow, standIns := [], harness := (true, "5177bd8b41ef25d15c14ec800e1b4ba281347f098507ab5a349e4a3af5f78f08"), looks := false }, kinds := [], alts := [], laidByText := true, laidKinds := [.data], laidTests := true, laidLooks := .later }
def BitsShiftsCardSaid : Prop := Claim7.holds Tryd.pinned (.plain (OpenSpec.ofChange bitsShiftsSpec)) bitsShiftsCard

/-- THE SECOND FORM's CARD OF 'armaturelaw02.BitsAlgebra'. -/
def bitsAlgebraUptoCard : Claim7 := { stood := { row := bitsAlgebraUptoRow, standIns := [], harness := (true, "5177bd8b41ef25d15c14ec800e1b4ba281347f098507ab5a349e4a3af5f78f08"), looks := false }, kinds := [], alts := [], laidByText := true, laidKinds := [.data], laidTests := true, laidLooks := .later }
def BitsAlgebraUptoCardSaid : Prop := Claim7.holds Tryd.pinned (.plain (OpenSpec.upto bitsAlgebraSpec)) bitsAlgebraUptoCard

/-- THE SECOND FORM's CARD OF 'armaturelaw02.BitsPoints'. -/
def bitsPointsUptoCard : Claim7 := { stood := { row := bitsPointsUptoRow, standIns := [], harness := (true, "5177bd8b41ef25d15c14ec800e1b4ba281347f098507ab5a349e4a3af5f78f08"), looks := false }, kinds := [], alts := [], laidByText := true, laidKinds := [.data], laidTests := true, laidLooks := .later }
def BitsPointsUptoCardSaid : Prop := Claim7.holds Tryd.pinned (.plain (OpenSpec.upto bitsPointsSpec)) bitsPointsUptoCard

/-- THE SECOND FORM's CARD OF 'armaturelaw02.BitsLists'. -/
def bitsListsUptoCard : Claim7 := { stood := { row := bitsListsUptoRow, standIns := [], harness := (true, "5177bd8b41ef25d15c14ec800e1b4ba281347f098507ab5a349e4a3af5f78f08"), looks := false }, kinds := [], alts := [], laidByText := true, laidKinds := [.data], laidTests := true, laidLooks := .later }
def BitsListsUptoCardSaid : Prop := Claim7.holds Tryd.pinned (.plain (OpenSpec.upto bitsListsSpec)) bitsListsUptoCard

/-- THE SECOND FORM's CARD OF 'armaturelaw02.BitsLaws'. -/
def bitsLawsUptoCard : Claim7 := { stood := { row := bitsLawsUptoRow, standIns := [], harness := (true, "5177bd8b41ef25d15c14ec800e1b4ba281347f098507ab5a349e4a3af5f78f08"), looks := false }, kinds := [], alts := [], laidByText := true, laidKinds := [.data], laidTests := true, laidLooks := .later }
def BitsLawsUptoCardSaid : Prop := Claim7.holds Tryd.pinned (.plain (OpenSpec.upto bitsLawsSpec)) bitsLawsUptoCard

/-- THE SECOND FORM's CARD OF 'armaturelaw02.BitsSubs'. -/
def bitsSubsUptoCard : Claim7 := { stood := { row := bitsSubsUptoRow, standIns := [], harness := (true, "5177bd8b41ef25d15c14ec800e1b4ba281347f098507ab5a349e4a3af5f78f08"), looks := false }, kinds := [], alts := [], laidByText := true, laidKinds := [.data], laidTests := true, laidLooks := .later }
def BitsSubsUptoCardSaid : Prop := Claim7.holds Tryd.pinned (.plain (OpenSpec.upto bitsSubsSpec)) bitsSubsUptoCard

/-- THE SECOND FORM's CARD OF 'armaturelaw02.BitsCounts'. -/
def bitsCountsUptoCard : Claim7 := { stood := { row := bitsCountsUptoRow, standIns := [], harness := (true, "5177bd8b41ef25d15c14ec800e1b4ba281347f098507ab5a349e4a3af5f78f08"), looks := false }, kinds := [], alts := [], laidByText := true, laidKinds := [.data], laidTests := true, laidLooks := .later }
def BitsCountsUptoCardSaid : Prop := Claim7.holds Tryd.pinned (.plain (OpenSpec.upto bitsCountsSpec)) bitsCountsUptoCard

/-- THE SECOND FORM's CARD OF 'armaturelaw02.BitsMoves'. -/
def bitsMovesUptoCard : Claim7 := { stood := { row := bitsMovesUptoRow, standIns := [], harness := (true, "5177bd8b41ef25d15c14ec800e1b4ba281347f098507ab5a349e4a3af5f78f08"), looks := false }, kinds := [], alts := [], laidByText := true, laidKinds := [.data], laidTests := true, laidLooks := .later }
def BitsMovesUptoCardSaid : Prop := Claim7.holds Tryd.pinned (.plain (OpenSpec.upto bitsMovesSpec)) bitsMovesUptoCard

/-- THE SECOND FORM's CARD OF 'armaturelaw02.BitsBytes'. -/
def bitsBytesUptoCard : Claim7 := { stood := { row := bitsBytesUptoRow, standIns := [], harness := (true, "5177bd8b41ef25d15c14ec800e1b4ba281347f098507ab5a349e4a3af5f78f08"), looks := false }, kinds := [], alts := [], laidByText := true, laidKinds := [.data], laidTests := true, laidLooks := .later }
def BitsBytesUptoCardSaid : Prop := Claim7.holds Tryd.pinned (.plain (OpenSpec.upto bitsBytesSpec)) bitsBytesUptoCard

/-- THE SECOND FORM's CARD OF 'armaturelaw02.BitsShifts'. -/
def bitsShiftsUptoCard : Claim7 := { stood := { row := bitsShiftsUptoRow, standIns := [], harness := (true, "5177bd8b41ef25d15c14ec800e1b4ba281347f098507ab5a349e4a3af5f78f08"), looks := false }, kinds := [], alts := [], laidByText := true, laidKinds := [.data], laidTests := true, laidLooks := .later }
def BitsShiftsUptoCardSaid : Prop := Claim7.holds Tryd.pinned (.plain (OpenSpec.upto bitsShiftsSpec)) bitsShiftsUptoCard
end Rows
end Go.Proofs.YtfcmkfdofogenaaDoor
