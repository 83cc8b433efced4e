-- Written for this claim by a program of this session (wip/tools/myprint.py) out of the translation. Not trusted: Lean checks it.
import Derived.Test.YtkkbkdpfhbjliaaDoorProg
import Derived.Below
import Derived.Deep.Draws
import Derived.Deep.AppendLies
import Derived.Maps.AppendAt
import Derived.OwnWalk
import Derived.Laws.BytesArg
import Derived.Laws.MakeOwn
import Derived.Laws.OwnMore
import Derived.Deep.OwnRows
import Derived.Tactics
import Derived.Lib.ConvBytes
import Derived.Laws.Slices
import Derived.WalkKit
import Derived.KernelRfl
import Derived.RowKit3
import Derived.Deep.LoopGhost
import Derived.Deep.QuietTactic
import Derived.BigQuiet
import Derived.WideLaws
import Derived.Deep.DeepCutAuto
import Derived.Deep.CutBlock
import Derived.Deep.RegionHeld3
import Derived.Laws.Rows
import Derived.Lib.AppendStr
import Derived.ArgAppend
import Derived.Laws.IdiomCopy
import Derived.OrdersHeld
import Derived.Laws.BitsLemmas
import Derived.RowKit
import Derived.Test.YtkkbkdpfhbjliaaDoorStr
import Derived.Test.YtkkbkdpfhbjliaaDoorAny2
import Derived.Test.YtkkbkdpfhbjliaaDoorWWords
import Derived.Test.YtkkbkdpfhbjliaaDoorWLast
import Derived.Test.YtkkbkdpfhbjliaaDoorWTab
import Derived.Test.YtkkbkdpfhbjliaaDoorWFour
import Derived.Test.YtkkbkdpfhbjliaaDoorWQPut
import Derived.Test.YtkkbkdpfhbjliaaDoorWApart
import Derived.Test.YtkkbkdpfhbjliaaDoorWArr
import Derived.Test.YtkkbkdpfhbjliaaDoorWZeros
import Derived.Test.YtkkbkdpfhbjliaaDoorWFoot
import Derived.Test.YtkkbkdpfhbjliaaDoorWKept
import Derived.Test.YtkkbkdpfhbjliaaDoorWShare
import Derived.Test.YtkkbkdpfhbjliaaDoorWN
import Derived.Test.YtkkbkdpfhbjliaaDoorWFootNe
import Derived.Test.YtkkbkdpfhbjliaaDoorWAt
import Derived.Test.YtkkbkdpfhbjliaaDoorWEqStruct
import Derived.Test.YtkkbkdpfhbjliaaDoorWRepsOne
import Derived.Test.YtkkbkdpfhbjliaaDoorWInv
import Derived.Test.YtkkbkdpfhbjliaaDoorWInvWords
import Derived.Test.YtkkbkdpfhbjliaaDoorWGuard
import Derived.Test.YtkkbkdpfhbjliaaDoorWNEv
import Derived.Test.YtkkbkdpfhbjliaaDoorWMore
namespace Go.Proofs.YtkkbkdpfhbjliaaDoor.PF
open Go.RowKit Go.Proofs.YtkkbkdpfhbjliaaDoorW.PrintWords Go.Proofs.YtkkbkdpfhbjliaaDoorW.PrintLast Go.Proofs.YtkkbkdpfhbjliaaDoorW.PrintMore
attribute [local go_sem] max2_int min2_int max_two min_two max_three min_three max_four min_four   -- for this text's walks alone
set_option linter.unusedVariables false
set_option linter.unusedSimpArgs false



def errW : Option Int → Value
  | none => .nilIface
  | some c => .iface 0 (.int .i64 c)
theorem errW_none : errW none = .nilIface := rfl
theorem errW_some (c : Int) : errW (some c) = .iface 0 (.int .i64 c) := rfl

theorem info9 : (Tryd.prog.info? 9).map (fun i => (i.zero, i.size, i.bytes)) = some (some (.string ⟨#[]⟩), 1, 16) := by kernel_rfl
-- the values' own types

end Go.Proofs.YtkkbkdpfhbjliaaDoor.PF
