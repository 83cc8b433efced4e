/-
  NARROWER THAN 'FOR EVERY INPUT', by the rows' own cells (each row's printed sentence says how): FoldReads: laid · FoldRows: laid · FoldWrites: laid · FoldAgain: laid · FoldBlanks: laid.
  DERIVED. THE GIVEN ROWS OF THIS SEAT. 5 by the template 'for every input the law returns true; each argument reads behind the call as it read before'; 0 by the template 'total and deterministic' (their statements: YtkkbkdpfhbjliaaDoorTotals.lean).
  GIVEN WITH THE SEED: the statements are not yours to turn. If you find one false, say at which input.
  Laid BY PROGRAM, IN A SANDBOX (cutbox-rows.mjs): the forced cells as the released guide's own fill.sh prints them over the translation c7289b84db1a34db… (all of the seat's roots in one cut). By AI agents, Wed Nov 11 2026. No macro, syntax, notation, axiom, sorry.
-/
import Derived.Test.YtkkbkdpfhbjliaaDoorChecked
import GoSem.PinnedTables
import GoSem.Claim
import GoSem.ClaimJoined
import GoSem.ClaimMapViews
import Derived.JoinedTies
import Derived.KernelRfl
namespace Go.Proofs.YtkkbkdpfhbjliaaDoor
/- THE CELL 'sum', in the pinned program and in every row, IS THE sha256 OF THE DUMP (.gsa) THAT YtkkbkdpfhbjliaaDoorProg.lean LOADS. Nothing in Lean hashes anything: it is a label: what it is worth is what the hold of that sum in a sandbox is worth. -/
noncomputable def Tryd.pinned : Pinned := { name := "ytkkbkdpfhbjliaadoor", sum := "c7289b84db1a34db77387defc9f9cefe5867ce042f8ee5811cb3709ed178510e", checked := Tryd.checked }
namespace Rows
def none {H : Type} : Left H := { results := [], args := [] }

/- WHAT THE LISTED PACKAGE-LEVEL VARIABLES READ AS WHEN THE CALL BEGINS. Each datum BY PROGRAM (the guide's laid-datum.mjs) off the statement by which the dump's own 'gosem.cut.vars' lays the variable. In a bare row this is a premise. The card (YtkkbkdpfhbjliaaDoorCards.lean) ties it to the program's text. -/
def laid_unicode_utf8_acceptRanges {H : Type} : DataW H := .agg [.agg [.lit (.int .u8 128), .lit (.int .u8 191)], .agg [.lit (.int .u8 160), .lit (.int .u8 191)], .agg [.lit (.int .u8 128), .lit (.int .u8 159)], .agg [.lit (.int .u8 144), .lit (.int .u8 191)], .agg [.lit (.int .u8 128), .lit (.int .u8 143)], .agg [.lit (.int .u8 0), .lit (.int .u8 0)], .agg [.lit (.int .u8 0), .lit (.int .u8 0)], .agg [.lit (.int .u8 0), .lit (.int .u8 0)], .agg [.lit (.int .u8 0), .lit (.int .u8 0)], .agg [.lit (.int .u8 0), .lit (.int .u8 0)], .agg [.lit (.int .u8 0), .lit (.int .u8 0)], .agg [.lit (.int .u8 0), .lit (.int .u8 0)], .agg [.lit (.int .u8 0), .lit (.int .u8 0)], .agg [.lit (.int .u8 0), .lit (.int .u8 0)], .agg [.lit (.int .u8 0), .lit (.int .u8 0)], .agg [.lit (.int .u8 0), .lit (.int .u8 0)]]
/-- One of Go's own tables, pinned by name: the form's constant. -/
def laid_unicode_utf8_first : DataW Unit := Go.Pinned.utf8First

/-- 'calepinlaw02.FoldReads': WHATEVER THE INPUT: true; the input reads as it did. -/
def foldReadsSpec : ChangeSpec := { name := "foldReads", fn := fun _ => fun
  | [d] => { results := [.lit (.bool true)], args := [d] }
  | _ => none }
def foldReadsRow : OpenClaim := { program := "ytkkbkdpfhbjliaadoor", sum := "c7289b84db1a34db77387defc9f9cefe5867ce042f8ee5811cb3709ed178510e", func := "calepin/calepinlaw02.FoldReads", spec := "foldReads", inPlace := ["internal/bytealg.IndexByteString", "internal/bytealg.IndexString", "internal/abi.NoEscape"], named := ["internal/bytealg.MaxLen", "unicode/utf8.first", "unicode/utf8.acceptRanges"], apart := false, laid := [("unicode/utf8.acceptRanges", laid_unicode_utf8_acceptRanges), ("unicode/utf8.first", laid_unicode_utf8_first)] }
def FoldReadsSaid : Prop := foldReadsRow.holds Tryd.pinned (OpenSpec.ofChange foldReadsSpec)

/-- ITS FALSE NEIGHBOUR: 'it returns false'. Refute it at one input. -/
def foldReadsWrong : ChangeSpec := { name := "foldReads", fn := fun _ => fun
  | [d] => { results := [.lit (.bool false)], args := [d] }
  | _ => none }
def FoldReadsWrongFalsely : Prop := foldReadsRow.holds Tryd.pinned (OpenSpec.ofChange foldReadsWrong)

/-- 'calepinlaw02.FoldRows': WHATEVER THE INPUT: true; the input reads as it did. -/
def foldRowsSpec : ChangeSpec := { name := "foldRows", fn := fun _ => fun
  | [d] => { results := [.lit (.bool true)], args := [d] }
  | _ => none }
def foldRowsRow : OpenClaim := { program := "ytkkbkdpfhbjliaadoor", sum := "c7289b84db1a34db77387defc9f9cefe5867ce042f8ee5811cb3709ed178510e", func := "calepin/calepinlaw02.FoldRows", spec := "foldRows", inPlace := ["internal/bytealg.IndexByteString", "internal/bytealg.IndexString", "internal/abi.NoEscape"], named := ["internal/bytealg.MaxLen", "unicode/utf8.first", "unicode/utf8.acceptRanges"], apart := false, laid := [("unicode/utf8.acceptRanges", laid_unicode_utf8_acceptRanges), ("unicode/utf8.first", laid_unicode_utf8_first)] }
def FoldRowsSaid : Prop := foldRowsRow.holds Tryd.pinned (OpenSpec.ofChange foldRowsSpec)

/-- ITS FALSE NEIGHBOUR: 'it returns false'. Refute it at one input. -/
def foldRowsWrong : ChangeSpec := { name := "foldRows", fn := fun _ => fun
  | [d] => { results := [.lit (.bool false)], args := [d] }
  | _ => none }
def FoldRowsWrongFalsely : Prop := foldRowsRow.holds Tryd.pinned (OpenSpec.ofChange foldRowsWrong)

/-- 'calepinlaw02.FoldWrites': WHATEVER THE INPUT: true; the input reads as it did. -/
def foldWritesSpec : ChangeSpec := { name := "foldWrites", fn := fun _ => fun
  | [d] => { results := [.lit (.bool true)], args := [d] }
  | _ => none }
def foldWritesRow : OpenClaim := { program := "ytkkbkdpfhbjliaadoor", sum := "c7289b84db1a34db77387defc9f9cefe5867ce042f8ee5811cb3709ed178510e", func := "calepin/calepinlaw02.FoldWrites", spec := "foldWrites", inPlace := ["internal/bytealg.IndexByteString", "internal/bytealg.IndexString", "internal/abi.NoEscape"], named := ["internal/bytealg.MaxLen", "unicode/utf8.first", "unicode/utf8.acceptRanges"], apart := false, laid := [("unicode/utf8.acceptRanges", laid_unicode_utf8_acceptRanges), ("unicode/utf8.first", laid_unicode_utf8_first)] }
def FoldWritesSaid : Prop := foldWritesRow.holds Tryd.pinned (OpenSpec.ofChange foldWritesSpec)

/-- ITS FALSE NEIGHBOUR: 'it returns false'. Refute it at one input. -/
def foldWritesWrong : ChangeSpec := { name := "foldWrites", fn := fun _ => fun
  | [d] => { results := [.lit (.bool false)], args := [d] }
  | _ => none }
def FoldWritesWrongFalsely : Prop := foldWritesRow.holds Tryd.pinned (OpenSpec.ofChange foldWritesWrong)

/-- 'calepinlaw02.FoldAgain': WHATEVER THE INPUT: true; the input reads as it did. -/
def foldAgainSpec : ChangeSpec := { name := "foldAgain", fn := fun _ => fun
  | [d] => { results := [.lit (.bool true)], args := [d] }
  | _ => none }
def foldAgainRow : OpenClaim := { program := "ytkkbkdpfhbjliaadoor", sum := "c7289b84db1a34db77387defc9f9cefe5867ce042f8ee5811cb3709ed178510e", func := "calepin/calepinlaw02.FoldAgain", spec := "foldAgain", inPlace := ["internal/bytealg.IndexByteString", "internal/bytealg.IndexString", "internal/abi.NoEscape"], named := ["internal/bytealg.MaxLen", "unicode/utf8.first", "unicode/utf8.acceptRanges"], apart := false, laid := [("unicode/utf8.acceptRanges", laid_unicode_utf8_acceptRanges), ("unicode/utf8.first", laid_unicode_utf8_first)] }
def FoldAgainSaid : Prop := foldAgainRow.holds Tryd.pinned (OpenSpec.ofChange foldAgainSpec)

/-- ITS FALSE NEIGHBOUR: 'it returns false'. Refute it at one input. -/
def foldAgainWrong : ChangeSpec := { name := "foldAgain", fn := fun _ => fun
  | [d] => { results := [.lit (.bool false)], args := [d] }
  | _ => none }
def FoldAgainWrongFalsely : Prop := foldAgainRow.holds Tryd.pinned (OpenSpec.ofChange foldAgainWrong)

/-- 'calepinlaw02.FoldBlanks': WHATEVER THE INPUT: true; the input reads as it did. -/
def foldBlanksSpec : ChangeSpec := { name := "foldBlanks", fn := fun _ => fun
  | [d1, d2] => { results := [.lit (.bool true)], args := [d1, d2] }
  | _ => none }
def foldBlanksRow : OpenClaim := { program := "ytkkbkdpfhbjliaadoor", sum := "c7289b84db1a34db77387defc9f9cefe5867ce042f8ee5811cb3709ed178510e", func := "calepin/calepinlaw02.FoldBlanks", spec := "foldBlanks", inPlace := ["internal/bytealg.IndexByteString", "internal/bytealg.IndexString", "internal/abi.NoEscape"], named := ["internal/bytealg.MaxLen", "unicode/utf8.first", "unicode/utf8.acceptRanges"], apart := false, laid := [("unicode/utf8.acceptRanges", laid_unicode_utf8_acceptRanges), ("unicode/utf8.first", laid_unicode_utf8_first)] }
def FoldBlanksSaid : Prop := foldBlanksRow.holds Tryd.pinned (OpenSpec.ofChange foldBlanksSpec)

/-- ITS FALSE NEIGHBOUR: 'it returns false'. Refute it at one input. -/
def foldBlanksWrong : ChangeSpec := { name := "foldBlanks", fn := fun _ => fun
  | [d1, d2] => { results := [.lit (.bool false)], args := [d1, d2] }
  | _ => none }
def FoldBlanksWrongFalsely : Prop := foldBlanksRow.holds Tryd.pinned (OpenSpec.ofChange foldBlanksWrong)

/- THE SECOND FORM. 'bulk': how many values and letters a reading holds, each counted each time it is reached (what is shared counts as often as it is met; a slice's spare places count too). A statement '..UptoSaid' is the law's where the arguments, and the package variables that the reading takes, are together of bulk at most 1048576: NARROWER than '..Said'. Prove '..Said' where nothing that the law and all that it calls make is longer than what came in: it says more and counts as full. Else prove '..UptoSaid'. A law counts once. -/
mutual
def uptoBulk {H : Type} : DataW H → Nat
  | .lit (.string bytes) => bytes.length + 1
  | .lit _ => 1
  | .nil => 1
  | .ptr d => uptoBulk d + 1
  | .slice elems spare => uptoBulkAll elems + uptoBulkAll spare + 1
  | .agg parts => uptoBulkAll parts + 1
  | .iface _ d => uptoBulk d + 1
  | .map entries => uptoBulkEntries entries + 1
  | .held _ => 1
def uptoBulkAll {H : Type} : List (DataW H) → Nat
  | [] => 0
  | d :: r => uptoBulk d + uptoBulkAll r
def uptoBulkEntries {H : Type} : List (Lit × DataW H) → Nat
  | [] => 0
  | x :: r => uptoBulkEntry x + uptoBulkEntries r
def uptoBulkEntry {H : Type} : Lit × DataW H → Nat
  | (.string bytes, d) => bytes.length + uptoBulk d + 1
  | (_, d) => uptoBulk d + 1
 end
def uptoSmall : (H : Type) → List (DataW H) → Bool := fun _ ds => decide (uptoBulkAll ds ≤ 1048576)
def OpenSpec.upto (s : _root_.Go.ChangeSpec) : _root_.Go.OpenSpec := { _root_.Go.OpenSpec.ofChange s with cond := some uptoSmall }

/-- 'calepinlaw02.FoldReads', WHERE WHAT IT READS IS OF BULK AT MOST 1048576: true; the input reads as it did. -/
def foldReadsUptoRow : OpenClaim := { program := "ytkkbkdpfhbjliaadoor", sum := "c7289b84db1a34db77387defc9f9cefe5867ce042f8ee5811cb3709ed178510e", func := "calepin/calepinlaw02.FoldReads", spec := "foldReads", inPlace := ["internal/bytealg.IndexByteString", "internal/bytealg.IndexString", "internal/abi.NoEscape"], named := ["internal/bytealg.MaxLen", "unicode/utf8.first", "unicode/utf8.acceptRanges"], apart := false, laid := [("unicode/utf8.acceptRanges", laid_unicode_utf8_acceptRanges), ("unicode/utf8.first", laid_unicode_utf8_first)], narrowed := true }
def FoldReadsUptoSaid : Prop := foldReadsUptoRow.holds Tryd.pinned (OpenSpec.upto foldReadsSpec)

/-- 'calepinlaw02.FoldRows', WHERE WHAT IT READS IS OF BULK AT MOST 1048576: true; the input reads as it did. -/
def foldRowsUptoRow : OpenClaim := { program := "ytkkbkdpfhbjliaadoor", sum := "c7289b84db1a34db77387defc9f9cefe5867ce042f8ee5811cb3709ed178510e", func := "calepin/calepinlaw02.FoldRows", spec := "foldRows", inPlace := ["internal/bytealg.IndexByteString", "internal/bytealg.IndexString", "internal/abi.NoEscape"], named := ["internal/bytealg.MaxLen", "unicode/utf8.first", "unicode/utf8.acceptRanges"], apart := false, laid := [("unicode/utf8.acceptRanges", laid_unicode_utf8_acceptRanges), ("unicode/utf8.first", laid_unicode_utf8_first)], narrowed := true }
def FoldRowsUptoSaid : Prop := foldRowsUptoRow.holds Tryd.pinned (OpenSpec.upto foldRowsSpec)

/-- 'calepinlaw02.FoldWrites', WHERE WHAT IT READS IS OF BULK AT MOST 1048576: true; the input reads as it did. -/
def foldWritesUptoRow : OpenClaim := { program := "ytkkbkdpfhbjliaadoor", sum := "c7289b84db1a34db77387defc9f9cefe5867ce042f8ee5811cb3709ed178510e", func := "calepin/calepinlaw02.FoldWrites", spec := "foldWrites", inPlace := ["internal/bytealg.IndexByteString", "internal/bytealg.IndexString", "internal/abi.NoEscape"], named := ["internal/bytealg.MaxLen", "unicode/utf8.first", "unicode/utf8.acceptRanges"], apart := false, laid := [("unicode/utf8.acceptRanges", laid_unicode_utf8_acceptRanges), ("unicode/utf8.first", laid_unicode_utf8_first)], narrowed := true }
def FoldWritesUptoSaid : Prop := foldWritesUptoRow.holds Tryd.pinned (OpenSpec.upto foldWritesSpec)

/-- 'calepinlaw02.FoldAgain', WHERE WHAT IT READS IS OF BULK AT MOST 1048576: true; the input reads as it did. -/
def foldAgainUptoRow : OpenClaim := { program := "ytkkbkdpfhbjliaadoor", sum := "c7289b84db1a34db77387defc9f9cefe5867ce042f8ee5811cb3709ed178510e", func := "calepin/calepinlaw02.FoldAgain", spec := "foldAgain", inPlace := ["internal/bytealg.IndexByteString", "internal/bytealg.IndexString", "internal/abi.NoEscape"], named := ["internal/bytealg.MaxLen", "unicode/utf8.first", "unicode/utf8.acceptRanges"], apart := false, laid := [("unicode/utf8.acceptRanges", laid_unicode_utf8_acceptRanges), ("unicode/utf8.first", laid_unicode_utf8_first)], narrowed := true }
def FoldAgainUptoSaid : Prop := foldAgainUptoRow.holds Tryd.pinned (OpenSpec.upto foldAgainSpec)

/-- 'calepinlaw02.FoldBlanks', WHERE WHAT IT READS IS OF BULK AT MOST 1048576: true; the input reads as it did. -/
def foldBlanksUptoRow : OpenClaim := { program := "ytkkbkdpfhbjliaadoor", sum := "c7289b84db1a34db77387defc9f9cefe5867ce042f8ee5811cb3709ed178510e", func := "calepin/calepinlaw02.FoldBlanks", spec := "foldBlanks", inPlace := ["internal/bytealg.IndexByteString", "internal/bytealg.IndexString", "internal/abi.NoEscape"], named := ["internal/bytealg.MaxLen", "unicode/utf8.first", "unicode/utf8.acceptRanges"], apart := false, laid := [("unicode/utf8.acceptRanges", laid_unicode_utf8_acceptRanges), ("unicode/utf8.first", laid_unicode_utf8_first)], narrowed := true }
def FoldBlanksUptoSaid : Prop := foldBlanksUptoRow.holds Tryd.pinned (OpenSpec.upto foldBlanksSpec)

end Rows
end Go.Proofs.YtkkbkdpfhbjliaaDoor
