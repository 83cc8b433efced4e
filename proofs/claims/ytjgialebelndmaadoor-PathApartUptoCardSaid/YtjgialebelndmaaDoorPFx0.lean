-- Written for this claim by a program of this session (wip/tools/myprint.py) out of the translation. Not trusted: Lean checks it.
import Derived.Test.YtjgialebelndmaaDoorProg
import Derived.Below
import Derived.Deep.Draws
import Derived.Deep.AppendLies
import Derived.Maps.AppendAt
import Derived.OwnWalk
import Derived.Laws.BytesArg
import Derived.Laws.MakeOwn
import Derived.Laws.OwnMore
import Derived.Deep.OwnRows
import Derived.Tactics
import Derived.Lib.ConvBytes
import Derived.Laws.Slices
import Derived.WalkKit
import Derived.KernelRfl
import Derived.RowKit3
import Derived.Deep.LoopGhost
import Derived.Deep.QuietTactic
import Derived.BigQuiet
import Derived.WideLaws
import Derived.Deep.DeepCutAuto
import Derived.Deep.CutBlock
import Derived.Deep.RegionHeld3
import Derived.Laws.Rows
import Derived.Lib.AppendStr
import Derived.ArgAppend
import Derived.Laws.IdiomCopy
import Derived.OrdersHeld
import Derived.Laws.BitsLemmas
import Derived.RowKit
import Derived.Test.YtjgialebelndmaaDoorStr
import Derived.Test.YtjgialebelndmaaDoorWWords
import Derived.Test.YtjgialebelndmaaDoorWLast
import Derived.Test.YtjgialebelndmaaDoorWTab
import Derived.Test.YtjgialebelndmaaDoorWFour
import Derived.Test.YtjgialebelndmaaDoorWQPut
import Derived.Test.YtjgialebelndmaaDoorWApart
import Derived.Test.YtjgialebelndmaaDoorWArr
import Derived.Test.YtjgialebelndmaaDoorWZeros
import Derived.Test.YtjgialebelndmaaDoorWFoot
import Derived.Test.YtjgialebelndmaaDoorWKept
import Derived.Test.YtjgialebelndmaaDoorWShare
import Derived.Test.YtjgialebelndmaaDoorWN
import Derived.Test.YtjgialebelndmaaDoorWFootNe
import Derived.Test.YtjgialebelndmaaDoorWAt
import Derived.Test.YtjgialebelndmaaDoorWEqStruct
import Derived.Test.YtjgialebelndmaaDoorWRepsOne
import Derived.Test.YtjgialebelndmaaDoorWInv
import Derived.Test.YtjgialebelndmaaDoorWInvWords
import Derived.Test.YtjgialebelndmaaDoorWGuard
import Derived.Test.YtjgialebelndmaaDoorWNEv
import Derived.Test.YtjgialebelndmaaDoorWMore
namespace Go.Proofs.YtjgialebelndmaaDoor.PF
open Go.RowKit Go.Proofs.YtjgialebelndmaaDoorW.PrintWords Go.Proofs.YtjgialebelndmaaDoorW.PrintLast Go.Proofs.YtjgialebelndmaaDoorW.PrintMore
attribute [local go_sem] max2_int min2_int max_two min_two max_three min_three max_four min_four   -- for this text's walks alone
set_option linter.unusedVariables false
set_option linter.unusedSimpArgs false



def errW : Option Int → Value
  | none => .nilIface
  | some c => .iface 0 (.int .i64 c)
theorem errW_none : errW none = .nilIface := rfl
theorem errW_some (c : Int) : errW (some c) = .iface 0 (.int .i64 c) := rfl

theorem info5 : (Tryd.prog.info? 5).map (fun i => (i.zero, i.size, i.bytes)) = some (some (.int .u8 0), 1, 1) := by kernel_rfl
-- the values' own types

end Go.Proofs.YtjgialebelndmaaDoor.PF
