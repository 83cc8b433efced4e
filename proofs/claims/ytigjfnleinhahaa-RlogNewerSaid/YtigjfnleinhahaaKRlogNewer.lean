/- For any three logs of some entries each: of two one is at least as new as the other, and the order of three is one. -/
import Derived.Test.YtigjfnleinhahaaNw2
namespace Go.Proofs.Ytigjfnleinhahaa.PLog
open Go.RowKit Go.Proofs.YtigjfnleinhahaaW.PrintWords Go.Proofs.YtigjfnleinhahaaW.PrintLast Go.Proofs.YtigjfnleinhahaaW.PrintMore
set_option linter.unusedVariables false
theorem RlogNewer_walk (a0x a0y : Int) (a1x a1y : Int) (a2x a2y : Int) (w : World) (w0x : (Lit.int .i64 a0x).wf = true) (w0y : (Lit.int .i64 a0y).wf = true) (w1x : (Lit.int .i64 a1x).wf = true) (w1y : (Lit.int .i64 a1y).wf = true) (w2x : (Lit.int .i64 a2x).wf = true) (w2y : (Lit.int .i64 a2y).wf = true) :
    Calls Try.prog 3 #[.agg #[.int .i64 a0x, .int .i64 a0y], .agg #[.int .i64 a1x, .int .i64 a1y], .agg #[.int .i64 a2x, .int .i64 a2y]] w fun e w' => e = .returned (.bool true) ∧ Below w.heap.size w w' := by
  have b0x : -9223372036854775808 ≤ a0x ∧ a0x ≤ 9223372036854775807 := by simpa [Lit.wf, IntKind.min, IntKind.max, IntKind.signed, IntKind.bits] using w0x
  have b0y : -9223372036854775808 ≤ a0y ∧ a0y ≤ 9223372036854775807 := by simpa [Lit.wf, IntKind.min, IntKind.max, IntKind.signed, IntKind.bits] using w0y
  have b1x : -9223372036854775808 ≤ a1x ∧ a1x ≤ 9223372036854775807 := by simpa [Lit.wf, IntKind.min, IntKind.max, IntKind.signed, IntKind.bits] using w1x
  have b1y : -9223372036854775808 ≤ a1y ∧ a1y ≤ 9223372036854775807 := by simpa [Lit.wf, IntKind.min, IntKind.max, IntKind.signed, IntKind.bits] using w1y
  have b2x : -9223372036854775808 ≤ a2x ∧ a2x ≤ 9223372036854775807 := by simpa [Lit.wf, IntKind.min, IntKind.max, IntKind.signed, IntKind.bits] using w2x
  have b2y : -9223372036854775808 ≤ a2y ∧ a2y ≤ 9223372036854775807 := by simpa [Lit.wf, IntKind.min, IntKind.max, IntKind.signed, IntKind.bits] using w2y
  exact newer_law w a0x a0y a1x a1y a2x a2y ⟨b0x, b0y, b1x, b1y, b2x, b2y⟩
end Go.Proofs.Ytigjfnleinhahaa.PLog
