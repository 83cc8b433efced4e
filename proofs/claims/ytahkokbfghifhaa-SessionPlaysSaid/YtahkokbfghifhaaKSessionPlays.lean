/- For every script of sessions: tables answer it as the document says. -/
import Derived.Test.YtahkokbfghifhaaPlays
namespace Go.Proofs.Ytahkokbfghifhaa.PS
open Go.RowKit Go.Proofs.YtahkokbfghifhaaW.PrintWords Go.Proofs.YtahkokbfghifhaaW.PrintLast Go.Proofs.YtahkokbfghifhaaW.PrintMore
set_option linter.unusedVariables false
theorem SessionPlays_walk (a0 : Option Addr) (len0 cap0 : Nat) (z0 : List S51) (w : World) (w0 : z0.length = len0 ∧ Kd.C k51 w a0 len0 z0) :
    Calls Try.prog 6 #[.slice a0 len0 cap0] w fun e w' => e = .returned (.bool true) ∧ Below w.heap.size w w' := by
  obtain ⟨rfl, h⟩ := w0
  exact plays_law a0 cap0 z0 w h
end Go.Proofs.Ytahkokbfghifhaa.PS
