-- Written for this claim by a program of this session (wip/tools/myprint.py) out of the translation. Not trusted: Lean checks it.
import Derived.Test.YtdjdbmopckhcdaaProg
import Derived.Below
import Derived.Deep.Draws
import Derived.Deep.AppendLies
import Derived.Maps.AppendAt
import Derived.OwnWalk
import Derived.Laws.BytesArg
import Derived.Laws.MakeOwn
import Derived.Laws.OwnMore
import Derived.Deep.OwnRows
import Derived.Tactics
import Derived.Lib.ConvBytes
import Derived.Laws.Slices
import Derived.WalkKit
import Derived.KernelRfl
import Derived.RowKit3
import Derived.Deep.LoopGhost
import Derived.Deep.QuietTactic
import Derived.BigQuiet
import Derived.WideLaws
import Derived.Deep.DeepCutAuto
import Derived.Deep.CutBlock
import Derived.Deep.RegionHeld3
import Derived.Laws.Rows
import Derived.Lib.AppendStr
import Derived.ArgAppend
import Derived.Laws.IdiomCopy
import Derived.OrdersHeld
import Derived.Laws.BitsLemmas
import Derived.RowKit
import Derived.Test.YtdjdbmopckhcdaaWWords
import Derived.Test.YtdjdbmopckhcdaaWLast
import Derived.Test.YtdjdbmopckhcdaaWTab
import Derived.Test.YtdjdbmopckhcdaaWFour
import Derived.Test.YtdjdbmopckhcdaaWQPut
import Derived.Test.YtdjdbmopckhcdaaWApart
import Derived.Test.YtdjdbmopckhcdaaWArr
import Derived.Test.YtdjdbmopckhcdaaWZeros
import Derived.Test.YtdjdbmopckhcdaaWFoot
import Derived.Test.YtdjdbmopckhcdaaWKept
import Derived.Test.YtdjdbmopckhcdaaWShare
import Derived.Test.YtdjdbmopckhcdaaWN
import Derived.Test.YtdjdbmopckhcdaaWFootNe
import Derived.Test.YtdjdbmopckhcdaaWAt
import Derived.Test.YtdjdbmopckhcdaaWEqStruct
import Derived.Test.YtdjdbmopckhcdaaWRepsOne
import Derived.Test.YtdjdbmopckhcdaaWInv
import Derived.Test.YtdjdbmopckhcdaaWInvWords
import Derived.Test.YtdjdbmopckhcdaaWGuard
import Derived.Test.YtdjdbmopckhcdaaWNEv
import Derived.Test.YtdjdbmopckhcdaaWMore
namespace Go.Proofs.Ytdjdbmopckhcdaa.PX
open Go.RowKit Go.Proofs.YtdjdbmopckhcdaaW.PrintWords Go.Proofs.YtdjdbmopckhcdaaW.PrintLast Go.Proofs.YtdjdbmopckhcdaaW.PrintMore
attribute [local go_sem] max2_int min2_int max_two min_two max_three min_three max_four min_four   -- for this text's walks alone
set_option linter.unusedVariables false
set_option linter.unusedSimpArgs false



def errW : Option Int → Value
  | none => .nilIface
  | some c => .iface 0 (.int .i64 c)
theorem errW_none : errW none = .nilIface := rfl
theorem errW_some (c : Int) : errW (some c) = .iface 0 (.int .i64 c) := rfl

theorem info9 : (Try.prog.info? 9).map (fun i => (i.zero, i.size, i.bytes)) = some (some (.string ⟨#[]⟩), 1, 16) := by kernel_rfl
-- the values' own types

end Go.Proofs.Ytdjdbmopckhcdaa.PX
