/-
  No cell of these rows narrows 'for every input' (looked for: loops, veiled, ifaces, maps, wideKeys, modest, calm, conditions, laid).
  DERIVED. THE GIVEN ROWS OF THIS SEAT. 4 by the template 'for every input the law returns true; each argument reads behind the call as it read before'; 0 by the template 'total and deterministic' (their statements: YtigjfnleinhahaaTotals.lean).
  GIVEN WITH THE SEED: the statements are not yours to turn. If you find one false, say at which input.
  Laid BY PROGRAM, IN A SANDBOX (cutbox-rows.mjs): the forced cells as the released guide's own fill.sh prints them over the translation 3f21ae2ea54a5623… (all of the seat's roots in one cut). By AI agents, Wed Nov 11 2026. No macro, syntax, notation, axiom, sorry.
-/
import Derived.Test.YtigjfnleinhahaaChecked
import GoSem.Claim
import GoSem.ClaimJoined
import GoSem.ClaimMapViews
import Derived.JoinedTies
import Derived.KernelRfl
namespace Go.Proofs.Ytigjfnleinhahaa
/- THE CELL 'sum', in the pinned program and in every row, IS THE sha256 OF THE DUMP (.gsa) THAT YtigjfnleinhahaaProg.lean LOADS. Nothing in Lean hashes anything: it is a label: what it is worth is what the hold of that sum in a sandbox is worth. -/
noncomputable def Try.pinned : Pinned := { name := "ytigjfnleinhahaa", sum := "3f21ae2ea54a56239150a1c370be1299620806924d9615e7ebd3214d977f7f19", checked := Try.checked }
namespace Rows
def none {H : Type} : Left H := { results := [], args := [] }

/-- 'calepinlaw20.RlogNewer': WHATEVER THE INPUT: true; the input reads as it did. -/
def rlogNewerSpec : ChangeSpec := { name := "rlogNewer", fn := fun _ => fun
  | [d1, d2, d3] => { results := [.lit (.bool true)], args := [d1, d2, d3] }
  | _ => none }
def rlogNewerRow : OpenClaim := { program := "ytigjfnleinhahaa", sum := "3f21ae2ea54a56239150a1c370be1299620806924d9615e7ebd3214d977f7f19", func := "calepin/calepinlaw20.RlogNewer", spec := "rlogNewer", apart := false }
def RlogNewerSaid : Prop := rlogNewerRow.holds Try.pinned (OpenSpec.ofChange rlogNewerSpec)

/-- ITS FALSE NEIGHBOUR: 'it returns false'. Refute it at one input. -/
def rlogNewerWrong : ChangeSpec := { name := "rlogNewer", fn := fun _ => fun
  | [d1, d2, d3] => { results := [.lit (.bool false)], args := [d1, d2, d3] }
  | _ => none }
def RlogNewerWrongFalsely : Prop := rlogNewerRow.holds Try.pinned (OpenSpec.ofChange rlogNewerWrong)

/-- 'calepinlaw20.RlogFollows': WHATEVER THE INPUT: true; the input reads as it did. -/
def rlogFollowsSpec : ChangeSpec := { name := "rlogFollows", fn := fun _ => fun
  | [d1, d2] => { results := [.lit (.bool true)], args := [d1, d2] }
  | _ => none }
def rlogFollowsRow : OpenClaim := { program := "ytigjfnleinhahaa", sum := "3f21ae2ea54a56239150a1c370be1299620806924d9615e7ebd3214d977f7f19", func := "calepin/calepinlaw20.RlogFollows", spec := "rlogFollows", apart := false }
def RlogFollowsSaid : Prop := rlogFollowsRow.holds Try.pinned (OpenSpec.ofChange rlogFollowsSpec)

/-- ITS FALSE NEIGHBOUR: 'it returns false'. Refute it at one input. -/
def rlogFollowsWrong : ChangeSpec := { name := "rlogFollows", fn := fun _ => fun
  | [d1, d2] => { results := [.lit (.bool false)], args := [d1, d2] }
  | _ => none }
def RlogFollowsWrongFalsely : Prop := rlogFollowsRow.holds Try.pinned (OpenSpec.ofChange rlogFollowsWrong)

/-- 'calepinlaw20.RlogTwice': WHATEVER THE INPUT: true; the input reads as it did. -/
def rlogTwiceSpec : ChangeSpec := { name := "rlogTwice", fn := fun _ => fun
  | [d1, d2, d3] => { results := [.lit (.bool true)], args := [d1, d2, d3] }
  | _ => none }
def rlogTwiceRow : OpenClaim := { program := "ytigjfnleinhahaa", sum := "3f21ae2ea54a56239150a1c370be1299620806924d9615e7ebd3214d977f7f19", func := "calepin/calepinlaw20.RlogTwice", spec := "rlogTwice", apart := false }
def RlogTwiceSaid : Prop := rlogTwiceRow.holds Try.pinned (OpenSpec.ofChange rlogTwiceSpec)

/-- ITS FALSE NEIGHBOUR: 'it returns false'. Refute it at one input. -/
def rlogTwiceWrong : ChangeSpec := { name := "rlogTwice", fn := fun _ => fun
  | [d1, d2, d3] => { results := [.lit (.bool false)], args := [d1, d2, d3] }
  | _ => none }
def RlogTwiceWrongFalsely : Prop := rlogTwiceRow.holds Try.pinned (OpenSpec.ofChange rlogTwiceWrong)

/-- 'calepinlaw20.RlogPlays': WHATEVER THE INPUT: true; the input reads as it did. -/
def rlogPlaysSpec : ChangeSpec := { name := "rlogPlays", fn := fun _ => fun
  | [d1, d2] => { results := [.lit (.bool true)], args := [d1, d2] }
  | _ => none }
def rlogPlaysRow : OpenClaim := { program := "ytigjfnleinhahaa", sum := "3f21ae2ea54a56239150a1c370be1299620806924d9615e7ebd3214d977f7f19", func := "calepin/calepinlaw20.RlogPlays", spec := "rlogPlays", apart := false }
def RlogPlaysSaid : Prop := rlogPlaysRow.holds Try.pinned (OpenSpec.ofChange rlogPlaysSpec)

/-- ITS FALSE NEIGHBOUR: 'it returns false'. Refute it at one input. -/
def rlogPlaysWrong : ChangeSpec := { name := "rlogPlays", fn := fun _ => fun
  | [d1, d2] => { results := [.lit (.bool false)], args := [d1, d2] }
  | _ => none }
def RlogPlaysWrongFalsely : Prop := rlogPlaysRow.holds Try.pinned (OpenSpec.ofChange rlogPlaysWrong)

/- THE SECOND FORM. 'bulk': how many values and letters a reading holds, each counted each time it is reached (what is shared counts as often as it is met; a slice's spare places count too). A statement '..UptoSaid' is the law's where the arguments, and the package variables that the reading takes, are together of bulk at most 1048576: NARROWER than '..Said'. Prove '..Said' where nothing that the law and all that it calls make is longer than what came in: it says more and counts as full. Else prove '..UptoSaid'. A law counts once. -/
mutual
def uptoBulk {H : Type} : DataW H → Nat
  | .lit (.string bytes) => bytes.length + 1
  | .lit _ => 1
  | .nil => 1
  | .ptr d => uptoBulk d + 1
  | .slice elems spare => uptoBulkAll elems + uptoBulkAll spare + 1
  | .agg parts => uptoBulkAll parts + 1
  | .iface _ d => uptoBulk d + 1
  | .map entries => uptoBulkEntries entries + 1
  | .held _ => 1
def uptoBulkAll {H : Type} : List (DataW H) → Nat
  | [] => 0
  | d :: r => uptoBulk d + uptoBulkAll r
def uptoBulkEntries {H : Type} : List (Lit × DataW H) → Nat
  | [] => 0
  | x :: r => uptoBulkEntry x + uptoBulkEntries r
def uptoBulkEntry {H : Type} : Lit × DataW H → Nat
  | (.string bytes, d) => bytes.length + uptoBulk d + 1
  | (_, d) => uptoBulk d + 1
 end
def uptoSmall : (H : Type) → List (DataW H) → Bool := fun _ ds => decide (uptoBulkAll ds ≤ 1048576)
def OpenSpec.upto (s : _root_.Go.ChangeSpec) : _root_.Go.OpenSpec := { _root_.Go.OpenSpec.ofChange s with cond := some uptoSmall }

/-- 'calepinlaw20.RlogNewer', WHERE WHAT IT READS IS OF BULK AT MOST 1048576: true; the input reads as it did. -/
def rlogNewerUptoRow : OpenClaim := { program := "ytigjfnleinhahaa", sum := "3f21ae2ea54a56239150a1c370be1299620806924d9615e7ebd3214d977f7f19", func := "calepin/calepinlaw20.RlogNewer", spec := "rlogNewer", apart := false, narrowed := true }
def RlogNewerUptoSaid : Prop := rlogNewerUptoRow.holds Try.pinned (OpenSpec.upto rlogNewerSpec)

/-- 'calepinlaw20.RlogFollows', WHERE WHAT IT READS IS OF BULK AT MOST 1048576: true; the input reads as it did. -/
def rlogFollowsUptoRow : OpenClaim := { program := "ytigjfnleinhahaa", sum := "3f21ae2ea54a56239150a1c370be1299620806924d9615e7ebd3214d977f7f19", func := "calepin/calepinlaw20.RlogFollows", spec := "rlogFollows", apart := false, narrowed := true }
def RlogFollowsUptoSaid : Prop := rlogFollowsUptoRow.holds Try.pinned (OpenSpec.upto rlogFollowsSpec)

/-- 'calepinlaw20.RlogTwice', WHERE WHAT IT READS IS OF BULK AT MOST 1048576: true; the input reads as it did. -/
def rlogTwiceUptoRow : OpenClaim := { program := "ytigjfnleinhahaa", sum := "3f21ae2ea54a56239150a1c370be1299620806924d9615e7ebd3214d977f7f19", func := "calepin/calepinlaw20.RlogTwice", spec := "rlogTwice", apart := false, narrowed := true }
def RlogTwiceUptoSaid : Prop := rlogTwiceUptoRow.holds Try.pinned (OpenSpec.upto rlogTwiceSpec)

/-- 'calepinlaw20.RlogPlays', WHERE WHAT IT READS IS OF BULK AT MOST 1048576: true; the input reads as it did. -/
def rlogPlaysUptoRow : OpenClaim := { program := "ytigjfnleinhahaa", sum := "3f21ae2ea54a56239150a1c370be1299620806924d9615e7ebd3214d977f7f19", func := "calepin/calepinlaw20.RlogPlays", spec := "rlogPlays", apart := false, narrowed := true }
def RlogPlaysUptoSaid : Prop := rlogPlaysUptoRow.holds Try.pinned (OpenSpec.upto rlogPlaysSpec)

end Rows
end Go.Proofs.Ytigjfnleinhahaa
