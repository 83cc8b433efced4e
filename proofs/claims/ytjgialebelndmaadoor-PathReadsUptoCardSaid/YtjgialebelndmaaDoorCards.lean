/-
  DERIVED. GIVEN WITH THE SEED: THE CARDS: each row of YtjgialebelndmaaDoorRows.lean that lists a variable, with what it lists TIED to the program's text (the seventh form; the later family's looks); each row that meets fmt, with fmt's text TOLD by the authors' own Lean function (tested against real Go, not proved from fmt's source: count such statements apart). THE CARD IS WHAT COUNTS. Prove the row's statement (the work); the ties are given (YtjgialebelndmaaDoorTie.lean); close each card by the builder's one call (the guide's Derived/Test/ToyasCard.lean, 'card_holds'). Laid BY PROGRAM, IN A SANDBOX (cutbox-door.mjs). By AI agents, Wed Nov 11 2026. No macro, syntax, notation, axiom, sorry.
-/
import Derived.Test.YtjgialebelndmaaDoorRows
import GoSem.ClaimSeven
namespace Go.Proofs.YtjgialebelndmaaDoor
namespace Rows

/-- THE TIED CARD OF 'calepinlaw06.PathMakes'. -/
def pathMakesCard : Claim7 := { stood := { row := pathMakesRow, standIns := [], harness := (true, "736fe8145b6a7c0c3dca34e8d2fe5d29e9103c8ddc1026230c04106e86b0c72a"), looks := false }, kinds := [], alts := [], laidByText := true, laidKinds := [.data, .pinned], laidTests := true, laidLooks := .later }
def PathMakesCardSaid : Prop := Claim7.holds Tryd.pinned (.plain (OpenSpec.ofChange pathMakesSpec)) pathMakesCard

/-- THE TIED CARD OF 'calepinlaw06.PathReads'. -/
def pathReadsCard : Claim7 := { stood := { row := pathReadsRow, standIns := [], harness := (true, "736fe8145b6a7c0c3dca34e8d2fe5d29e9103c8ddc1026230c04106e86b0c72a"), looks := false }, kinds := [], alts := [], laidByText := true, laidKinds := [.data, .pinned], laidTests := true, laidLooks := .later }
def PathReadsCardSaid : Prop := Claim7.holds Tryd.pinned (.plain (OpenSpec.ofChange pathReadsSpec)) pathReadsCard

/-- THE TIED CARD OF 'calepinlaw06.PathApart'. -/
def pathApartCard : Claim7 := { stood := { row := pathApartRow, standIns := [], harness := (true, "736fe8145b6a7c0c3dca34e8d2fe5d29e9103c8ddc1026230c04106e86b0c72a"), looks := false }, kinds := [], alts := [], laidByText := true, laidKinds := [.data, .pinned], laidTests := true, laidLooks := .later }
def PathApartCardSaid : Prop := Claim7.holds Tryd.pinned (.plain (OpenSpec.ofChange pathApartSpec)) pathApartCard

/-- THE TIED CARD OF 'calepinlaw06.PathBytes'. -/
def pathBytesCard : Claim7 := { stood := { row := pathBytesRow, standIns := [], harness := (true, "736fe8145b6a7c0c3dca34e8d2fe5d29e9103c8ddc1026230c04106e86b0c72a"), looks := false }, kinds := [], alts := [], laidByText := true, laidKinds := [.data, .pinned], laidTests := true, laidLooks := .later }
def PathBytesCardSaid : Prop := Claim7.holds Tryd.pinned (.plain (OpenSpec.ofChange pathBytesSpec)) pathBytesCard

/-- THE SECOND FORM's CARD OF 'calepinlaw06.PathMakes'. -/
def pathMakesUptoCard : Claim7 := { stood := { row := pathMakesUptoRow, standIns := [], harness := (true, "736fe8145b6a7c0c3dca34e8d2fe5d29e9103c8ddc1026230c04106e86b0c72a"), looks := false }, kinds := [], alts := [], laidByText := true, laidKinds := [.data, .pinned], laidTests := true, laidLooks := .later }
def PathMakesUptoCardSaid : Prop := Claim7.holds Tryd.pinned (.plain (OpenSpec.upto pathMakesSpec)) pathMakesUptoCard

/-- THE SECOND FORM's CARD OF 'calepinlaw06.PathReads'. -/
def pathReadsUptoCard : Claim7 := { stood := { row := pathReadsUptoRow, standIns := [], harness := (true, "736fe8145b6a7c0c3dca34e8d2fe5d29e9103c8ddc1026230c04106e86b0c72a"), looks := false }, kinds := [], alts := [], laidByText := true, laidKinds := [.data, .pinned], laidTests := true, laidLooks := .later }
def PathReadsUptoCardSaid : Prop := Claim7.holds Tryd.pinned (.plain (OpenSpec.upto pathReadsSpec)) pathReadsUptoCard

/-- THE SECOND FORM's CARD OF 'calepinlaw06.PathApart'. -/
def pathApartUptoCard : Claim7 := { stood := { row := pathApartUptoRow, standIns := [], harness := (true, "736fe8145b6a7c0c3dca34e8d2fe5d29e9103c8ddc1026230c04106e86b0c72a"), looks := false }, kinds := [], alts := [], laidByText := true, laidKinds := [.data, .pinned], laidTests := true, laidLooks := .later }
def PathApartUptoCardSaid : Prop := Claim7.holds Tryd.pinned (.plain (OpenSpec.upto pathApartSpec)) pathApartUptoCard

/-- THE SECOND FORM's CARD OF 'calepinlaw06.PathBytes'. -/
def pathBytesUptoCard : Claim7 := { stood := { row := pathBytesUptoRow, standIns := [], harness := (true, "736fe8145b6a7c0c3dca34e8d2fe5d29e9103c8ddc1026230c04106e86b0c72a"), looks := false }, kinds := [], alts := [], laidByText := true, laidKinds := [.data, .pinned], laidTests := true, laidLooks := .later }
def PathBytesUptoCardSaid : Prop := Claim7.holds Tryd.pinned (.plain (OpenSpec.upto pathBytesSpec)) pathBytesUptoCard
end Rows
end Go.Proofs.YtjgialebelndmaaDoor
