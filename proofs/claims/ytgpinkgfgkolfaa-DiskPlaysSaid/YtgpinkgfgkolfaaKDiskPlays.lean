/- For every room and every script of calls, power failures and crashes: disks answer it as the document says. -/
import Derived.Test.YtgpinkgfgkolfaaPly
namespace Go.Proofs.Ytgpinkgfgkolfaa.PD
open Go.RowKit Go.Proofs.YtgpinkgfgkolfaaW.PrintWords Go.Proofs.YtgpinkgfgkolfaaW.PrintLast Go.Proofs.YtgpinkgfgkolfaaW.PrintMore
set_option linter.unusedVariables false
set_option linter.unusedSimpArgs false
set_option maxHeartbeats 4000000
set_option maxRecDepth 100000

open Go.Proofs
theorem DiskPlays_walk (a0 : Int) (a1 : Option Addr) (len1 cap1 : Nat) (z1 : List OpD) (w : World) (w0 : (Lit.int .i64 a0).wf = true) (w1 : z1.length = len1 ∧ OpsAt w a1 z1) :
    Calls Try.prog 6 #[.int .i64 a0, .slice a1 len1 cap1] w fun e w' => e = .returned (.bool true) ∧ Below w.heap.size w w' := by
  have b0 : -9223372036854775808 ≤ a0 ∧ a0 ≤ 9223372036854775807 := by simpa [Lit.wf, IntKind.min, IntKind.max, IntKind.signed, IntKind.bits] using w0
  obtain ⟨rfl, h1⟩ := w1
  exact plays_calls a0 a1 cap1 z1 w b0 h1

end Go.Proofs.Ytgpinkgfgkolfaa.PD
