/-
  DERIVED. GIVEN WITH THE SEED: THE CARDS: each row of YtkkbkdpfhbjliaaDoorRows.lean that lists a variable, with what it lists TIED to the program's text (the seventh form; the later family's looks); each row that meets fmt, with fmt's text TOLD by the authors' own Lean function (tested against real Go, not proved from fmt's source: count such statements apart). THE CARD IS WHAT COUNTS. Prove the row's statement (the work); the ties are given (YtkkbkdpfhbjliaaDoorTie.lean); close each card by the builder's one call (the guide's Derived/Test/ToyasCard.lean, 'card_holds'). Laid BY PROGRAM, IN A SANDBOX (cutbox-door.mjs). By AI agents, Wed Nov 11 2026. No macro, syntax, notation, axiom, sorry.
-/
import Derived.Test.YtkkbkdpfhbjliaaDoorRows
import GoSem.ClaimSeven
namespace Go.Proofs.YtkkbkdpfhbjliaaDoor
namespace Rows

/-- THE TIED CARD OF 'calepinlaw02.FoldReads'. -/
def foldReadsCard : Claim7 := { stood := { row := foldReadsRow, standIns := [], harness := (true, "faa9cfa0903a9c187eb88482d127843d713d3f8da2ec2f25ed6392459b1c034a"), looks := false }, kinds := [], alts := [], laidByText := true, laidKinds := [.data, .pinned], laidTests := true, laidLooks := .later }
def FoldReadsCardSaid : Prop := Claim7.holds Tryd.pinned (.plain (OpenSpec.ofChange foldReadsSpec)) foldReadsCard

/-- THE TIED CARD OF 'calepinlaw02.FoldRows'. -/
def foldRowsCard : Claim7 := { stood := { row := foldRowsRow, standIns := [], harness := (true, "faa9cfa0903a9c187eb88482d127843d713d3f8da2ec2f25ed6392459b1c034a"), looks := false }, kinds := [], alts := [], laidByText := true, laidKinds := [.data, .pinned], laidTests := true, laidLooks := .later }
def FoldRowsCardSaid : Prop := Claim7.holds Tryd.pinned (.plain (OpenSpec.ofChange foldRowsSpec)) foldRowsCard

/-- THE TIED CARD OF 'calepinlaw02.FoldWrites'. -/
def foldWritesCard : Claim7 := { stood := { row := foldWritesRow, standIns := [], harness := (true, "faa9cfa0903a9c187eb88482d127843d713d3f8da2ec2f25ed6392459b1c034a"), looks := false }, kinds := [], alts := [], laidByText := true, laidKinds := [.data, .pinned], laidTests := true, laidLooks := .later }
def FoldWritesCardSaid : Prop := Claim7.holds Tryd.pinned (.plain (OpenSpec.ofChange foldWritesSpec)) foldWritesCard

/-- THE TIED CARD OF 'calepinlaw02.FoldAgain'. -/
def foldAgainCard : Claim7 := { stood := { row := foldAgainRow, standIns := [], harness := (true, "faa9cfa0903a9c187eb88482d127843d713d3f8da2ec2f25ed6392459b1c034a"), looks := false }, kinds := [], alts := [], laidByText := true, laidKinds := [.data, .pinned], laidTests := true, laidLooks := .later }
def FoldAgainCardSaid : Prop := Claim7.holds Tryd.pinned (.plain (OpenSpec.ofChange foldAgainSpec)) foldAgainCard

/-- THE TIED CARD OF 'calepinlaw02.FoldBlanks'. -/
def foldBlanksCard : Claim7 := { stood := { row := foldBlanksRow, standIns := [], harness := (true, "faa9cfa0903a9c187eb88482d127843d713d3f8da2ec2f25ed6392459b1c034a"), looks := false }, kinds := [], alts := [], laidByText := true, laidKinds := [.data, .pinned], laidTests := true, laidLooks := .later }
def FoldBlanksCardSaid : Prop := Claim7.holds Tryd.pinned (.plain (OpenSpec.ofChange foldBlanksSpec)) foldBlanksCard

/-- THE SECOND FORM's CARD OF 'calepinlaw02.FoldReads'. -/
def foldReadsUptoCard : Claim7 := { stood := { row := foldReadsUptoRow, standIns := [], harness := (true, "faa9cfa0903a9c187eb88482d127843d713d3f8da2ec2f25ed6392459b1c034a"), looks := false }, kinds := [], alts := [], laidByText := true, laidKinds := [.data, .pinned], laidTests := true, laidLooks := .later }
def FoldReadsUptoCardSaid : Prop := Claim7.holds Tryd.pinned (.plain (OpenSpec.upto foldReadsSpec)) foldReadsUptoCard

/-- THE SECOND FORM's CARD OF 'calepinlaw02.FoldRows'. -/
def foldRowsUptoCard : Claim7 := { stood := { row := foldRowsUptoRow, standIns := [], harness := (true, "faa9cfa0903a9c187eb88482d127843d713d3f8da2ec2f25ed6392459b1c034a"), looks := false }, kinds := [], alts := [], laidByText := true, laidKinds := [.data, .pinned], laidTests := true, laidLooks := .later }
def FoldRowsUptoCardSaid : Prop := Claim7.holds Tryd.pinned (.plain (OpenSpec.upto foldRowsSpec)) foldRowsUptoCard

/-- THE SECOND FORM's CARD OF 'calepinlaw02.FoldWrites'. -/
def foldWritesUptoCard : Claim7 := { stood := { row := foldWritesUptoRow, standIns := [], harness := (true, "faa9cfa0903a9c187eb88482d127843d713d3f8da2ec2f25ed6392459b1c034a"), looks := false }, kinds := [], alts := [], laidByText := true, laidKinds := [.data, .pinned], laidTests := true, laidLooks := .later }
def FoldWritesUptoCardSaid : Prop := Claim7.holds Tryd.pinned (.plain (OpenSpec.upto foldWritesSpec)) foldWritesUptoCard

/-- THE SECOND FORM's CARD OF 'calepinlaw02.FoldAgain'. -/
def foldAgainUptoCard : Claim7 := { stood := { row := foldAgainUptoRow, standIns := [], harness := (true, "faa9cfa0903a9c187eb88482d127843d713d3f8da2ec2f25ed6392459b1c034a"), looks := false }, kinds := [], alts := [], laidByText := true, laidKinds := [.data, .pinned], laidTests := true, laidLooks := .later }
def FoldAgainUptoCardSaid : Prop := Claim7.holds Tryd.pinned (.plain (OpenSpec.upto foldAgainSpec)) foldAgainUptoCard

/-- THE SECOND FORM's CARD OF 'calepinlaw02.FoldBlanks'. -/
def foldBlanksUptoCard : Claim7 := { stood := { row := foldBlanksUptoRow, standIns := [], harness := (true, "faa9cfa0903a9c187eb88482d127843d713d3f8da2ec2f25ed6392459b1c034a"), looks := false }, kinds := [], alts := [], laidByText := true, laidKinds := [.data, .pinned], laidTests := true, laidLooks := .later }
def FoldBlanksUptoCardSaid : Prop := Claim7.holds Tryd.pinned (.plain (OpenSpec.upto foldBlanksSpec)) foldBlanksUptoCard
end Rows
end Go.Proofs.YtkkbkdpfhbjliaaDoor
