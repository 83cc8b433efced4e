/- value.PutText, under the print's names. -/
import Derived.Test.YtdjdbmopckhcdaaFields
namespace Go.Proofs.Ytdjdbmopckhcdaa.PV
open Go.RowKit Go.Proofs.YtdjdbmopckhcdaaW.PrintWords Go.Proofs.YtdjdbmopckhcdaaW.PrintLast Go.Proofs.YtdjdbmopckhcdaaW.PrintMore
open Go.Proofs Go.Proofs.Ytdjdbmopckhcdaa
set_option linter.unusedVariables false
set_option linter.unusedSimpArgs false
set_option maxHeartbeats 4000000
set_option maxRecDepth 100000

def value_PutText.f (a0 : ByteArray) : Option ByteArray := if a0.size ≤ 1073741824 then some (mkB (putL a0.data.toList)) else none
theorem value_PutText.calls (a0 : ByteArray) (r : ByteArray) (w : World) (h : value_PutText.f a0 = some r) :
    Calls Try.prog 17 #[.string a0] w fun e w' => e = .returned (.string r) ∧ Below w.heap.size w w' := by
  unfold value_PutText.f at h
  by_cases hsz : a0.size ≤ 1073741824
  · rw [if_pos hsz] at h
    injection h with h
    subst h
    exact put_calls w a0 hsz
  · rw [if_neg hsz] at h; cases h

end Go.Proofs.Ytdjdbmopckhcdaa.PV
