/-
  No cell of these rows narrows 'for every input' (looked for: loops, veiled, ifaces, maps, wideKeys, modest, calm, conditions, laid).
  DERIVED. THE GIVEN ROWS OF THIS SEAT. 4 by the template 'for every input the law returns true; each argument reads behind the call as it read before'; 0 by the template 'total and deterministic' (their statements: YtknaffajmfimbaaTotals.lean).
  GIVEN WITH THE SEED: the statements are not yours to turn. If you find one false, say at which input.
  Laid BY PROGRAM, IN A SANDBOX (cutbox-rows.mjs): the forced cells as the released guide's own fill.sh prints them over the translation f4b23b43fa03aae1… (all of the seat's roots in one cut). By AI agents, Wed Nov 11 2026. No macro, syntax, notation, axiom, sorry.
-/
import Derived.Test.YtknaffajmfimbaaChecked
import GoSem.Claim
import GoSem.ClaimJoined
import GoSem.ClaimMapViews
import Derived.JoinedTies
import Derived.KernelRfl
namespace Go.Proofs.Ytknaffajmfimbaa
/- THE CELL 'sum', in the pinned program and in every row, IS THE sha256 OF THE DUMP (.gsa) THAT YtknaffajmfimbaaProg.lean LOADS. Nothing in Lean hashes anything: it is a label: what it is worth is what the hold of that sum in a sandbox is worth. -/
noncomputable def Try.pinned : Pinned := { name := "ytknaffajmfimbaa", sum := "f4b23b43fa03aae11ce5b307c487793bf996127a805ef9f5ad96cee0cae7bc30", checked := Try.checked }
namespace Rows
def none {H : Type} : Left H := { results := [], args := [] }

/-- 'calepinlaw21.MemberLists': WHATEVER THE INPUT: true; the input reads as it did. -/
def memberListsSpec : ChangeSpec := { name := "memberLists", fn := fun _ => fun
  | [d1, d2, d3] => { results := [.lit (.bool true)], args := [d1, d2, d3] }
  | _ => none }
def memberListsRow : OpenClaim := { program := "ytknaffajmfimbaa", sum := "f4b23b43fa03aae11ce5b307c487793bf996127a805ef9f5ad96cee0cae7bc30", func := "calepin/calepinlaw21.MemberLists", spec := "memberLists", unfollowed := true, recurses := true, apart := false }
def MemberListsSaid : Prop := memberListsRow.holds Try.pinned (OpenSpec.ofChange memberListsSpec)

/-- ITS FALSE NEIGHBOUR: 'it returns false'. Refute it at one input. -/
def memberListsWrong : ChangeSpec := { name := "memberLists", fn := fun _ => fun
  | [d1, d2, d3] => { results := [.lit (.bool false)], args := [d1, d2, d3] }
  | _ => none }
def MemberListsWrongFalsely : Prop := memberListsRow.holds Try.pinned (OpenSpec.ofChange memberListsWrong)

/-- 'calepinlaw21.MemberWalks': WHATEVER THE INPUT: true; the input reads as it did. -/
def memberWalksSpec : ChangeSpec := { name := "memberWalks", fn := fun _ => fun
  | [d1, d2] => { results := [.lit (.bool true)], args := [d1, d2] }
  | _ => none }
def memberWalksRow : OpenClaim := { program := "ytknaffajmfimbaa", sum := "f4b23b43fa03aae11ce5b307c487793bf996127a805ef9f5ad96cee0cae7bc30", func := "calepin/calepinlaw21.MemberWalks", spec := "memberWalks", unfollowed := true, recurses := true, apart := false }
def MemberWalksSaid : Prop := memberWalksRow.holds Try.pinned (OpenSpec.ofChange memberWalksSpec)

/-- ITS FALSE NEIGHBOUR: 'it returns false'. Refute it at one input. -/
def memberWalksWrong : ChangeSpec := { name := "memberWalks", fn := fun _ => fun
  | [d1, d2] => { results := [.lit (.bool false)], args := [d1, d2] }
  | _ => none }
def MemberWalksWrongFalsely : Prop := memberWalksRow.holds Try.pinned (OpenSpec.ofChange memberWalksWrong)

/-- 'calepinlaw21.MemberMeets': WHATEVER THE INPUT: true; the input reads as it did. -/
def memberMeetsSpec : ChangeSpec := { name := "memberMeets", fn := fun _ => fun
  | [d1, d2, d3] => { results := [.lit (.bool true)], args := [d1, d2, d3] }
  | _ => none }
def memberMeetsRow : OpenClaim := { program := "ytknaffajmfimbaa", sum := "f4b23b43fa03aae11ce5b307c487793bf996127a805ef9f5ad96cee0cae7bc30", func := "calepin/calepinlaw21.MemberMeets", spec := "memberMeets", unfollowed := true, recurses := true, apart := false }
def MemberMeetsSaid : Prop := memberMeetsRow.holds Try.pinned (OpenSpec.ofChange memberMeetsSpec)

/-- ITS FALSE NEIGHBOUR: 'it returns false'. Refute it at one input. -/
def memberMeetsWrong : ChangeSpec := { name := "memberMeets", fn := fun _ => fun
  | [d1, d2, d3] => { results := [.lit (.bool false)], args := [d1, d2, d3] }
  | _ => none }
def MemberMeetsWrongFalsely : Prop := memberMeetsRow.holds Try.pinned (OpenSpec.ofChange memberMeetsWrong)

/-- 'calepinlaw21.MemberVotes': WHATEVER THE INPUT: true; the input reads as it did. -/
def memberVotesSpec : ChangeSpec := { name := "memberVotes", fn := fun _ => fun
  | [d1, d2, d3] => { results := [.lit (.bool true)], args := [d1, d2, d3] }
  | _ => none }
def memberVotesRow : OpenClaim := { program := "ytknaffajmfimbaa", sum := "f4b23b43fa03aae11ce5b307c487793bf996127a805ef9f5ad96cee0cae7bc30", func := "calepin/calepinlaw21.MemberVotes", spec := "memberVotes", unfollowed := true, recurses := true, apart := false }
def MemberVotesSaid : Prop := memberVotesRow.holds Try.pinned (OpenSpec.ofChange memberVotesSpec)

/-- ITS FALSE NEIGHBOUR: 'it returns false'. Refute it at one input. -/
def memberVotesWrong : ChangeSpec := { name := "memberVotes", fn := fun _ => fun
  | [d1, d2, d3] => { results := [.lit (.bool false)], args := [d1, d2, d3] }
  | _ => none }
def MemberVotesWrongFalsely : Prop := memberVotesRow.holds Try.pinned (OpenSpec.ofChange memberVotesWrong)

/- THE SECOND FORM. 'bulk': how many values and letters a reading holds, each counted each time it is reached (what is shared counts as often as it is met; a slice's spare places count too). A statement '..UptoSaid' is the law's where the arguments, and the package variables that the reading takes, are together of bulk at most 1048576: NARROWER than '..Said'. Prove '..Said' where nothing that the law and all that it calls make is longer than what came in: it says more and counts as full. Else prove '..UptoSaid'. A law counts once. -/
mutual
def uptoBulk {H : Type} : DataW H → Nat
  | .lit (.string bytes) => bytes.length + 1
  | .lit _ => 1
  | .nil => 1
  | .ptr d => uptoBulk d + 1
  | .slice elems spare => uptoBulkAll elems + uptoBulkAll spare + 1
  | .agg parts => uptoBulkAll parts + 1
  | .iface _ d => uptoBulk d + 1
  | .map entries => uptoBulkEntries entries + 1
  | .held _ => 1
def uptoBulkAll {H : Type} : List (DataW H) → Nat
  | [] => 0
  | d :: r => uptoBulk d + uptoBulkAll r
def uptoBulkEntries {H : Type} : List (Lit × DataW H) → Nat
  | [] => 0
  | x :: r => uptoBulkEntry x + uptoBulkEntries r
def uptoBulkEntry {H : Type} : Lit × DataW H → Nat
  | (.string bytes, d) => bytes.length + uptoBulk d + 1
  | (_, d) => uptoBulk d + 1
 end
def uptoSmall : (H : Type) → List (DataW H) → Bool := fun _ ds => decide (uptoBulkAll ds ≤ 1048576)
def OpenSpec.upto (s : _root_.Go.ChangeSpec) : _root_.Go.OpenSpec := { _root_.Go.OpenSpec.ofChange s with cond := some uptoSmall }

/-- 'calepinlaw21.MemberLists', WHERE WHAT IT READS IS OF BULK AT MOST 1048576: true; the input reads as it did. -/
def memberListsUptoRow : OpenClaim := { program := "ytknaffajmfimbaa", sum := "f4b23b43fa03aae11ce5b307c487793bf996127a805ef9f5ad96cee0cae7bc30", func := "calepin/calepinlaw21.MemberLists", spec := "memberLists", unfollowed := true, recurses := true, apart := false, narrowed := true }
def MemberListsUptoSaid : Prop := memberListsUptoRow.holds Try.pinned (OpenSpec.upto memberListsSpec)

/-- 'calepinlaw21.MemberWalks', WHERE WHAT IT READS IS OF BULK AT MOST 1048576: true; the input reads as it did. -/
def memberWalksUptoRow : OpenClaim := { program := "ytknaffajmfimbaa", sum := "f4b23b43fa03aae11ce5b307c487793bf996127a805ef9f5ad96cee0cae7bc30", func := "calepin/calepinlaw21.MemberWalks", spec := "memberWalks", unfollowed := true, recurses := true, apart := false, narrowed := true }
def MemberWalksUptoSaid : Prop := memberWalksUptoRow.holds Try.pinned (OpenSpec.upto memberWalksSpec)

/-- 'calepinlaw21.MemberMeets', WHERE WHAT IT READS IS OF BULK AT MOST 1048576: true; the input reads as it did. -/
def memberMeetsUptoRow : OpenClaim := { program := "ytknaffajmfimbaa", sum := "f4b23b43fa03aae11ce5b307c487793bf996127a805ef9f5ad96cee0cae7bc30", func := "calepin/calepinlaw21.MemberMeets", spec := "memberMeets", unfollowed := true, recurses := true, apart := false, narrowed := true }
def MemberMeetsUptoSaid : Prop := memberMeetsUptoRow.holds Try.pinned (OpenSpec.upto memberMeetsSpec)

/-- 'calepinlaw21.MemberVotes', WHERE WHAT IT READS IS OF BULK AT MOST 1048576: true; the input reads as it did. -/
def memberVotesUptoRow : OpenClaim := { program := "ytknaffajmfimbaa", sum := "f4b23b43fa03aae11ce5b307c487793bf996127a805ef9f5ad96cee0cae7bc30", func := "calepin/calepinlaw21.MemberVotes", spec := "memberVotes", unfollowed := true, recurses := true, apart := false, narrowed := true }
def MemberVotesUptoSaid : Prop := memberVotesUptoRow.holds Try.pinned (OpenSpec.upto memberVotesSpec)

end Rows
end Go.Proofs.Ytknaffajmfimbaa
