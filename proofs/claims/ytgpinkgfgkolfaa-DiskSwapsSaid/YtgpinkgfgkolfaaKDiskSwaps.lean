/- For all bytes and every call at which the disk fails: a file that is written, synced and renamed over another is the old one or the new one whole. -/
import Derived.Test.YtgpinkgfgkolfaaSw
namespace Go.Proofs.Ytgpinkgfgkolfaa.PD
open Go.RowKit Go.Proofs.YtgpinkgfgkolfaaW.PrintWords Go.Proofs.YtgpinkgfgkolfaaW.PrintLast Go.Proofs.YtgpinkgfgkolfaaW.PrintMore
set_option linter.unusedVariables false
set_option linter.unusedSimpArgs false
set_option maxHeartbeats 4000000
set_option maxRecDepth 100000

open Go.Proofs
theorem DiskSwaps_walk (a0 : Option Addr) (len0 cap0 : Nat) (z0 : List Int) (a1 : Option Addr) (len1 cap1 : Nat) (z1 : List Int) (a2x a2y : Int) (w : World) (w0 : ((a0 = none ∧ len0 = 0 ∧ cap0 = 0 ∧ z0 = []) ∨ ∃ x, a0 = some x ∧ len0 ≤ cap0 ∧ cap0 ≤ maxLen ∧ z0.length = cap0 ∧ (∀ i, i < z0.length → w.cell? (x.add i) = some (.int .u8 (z0.getD i 0))) ∧ ∀ n ∈ z0, (Lit.int .u8 n).wf = true)) (y0 : len0 * 1 ≤ 140737488351232) (w1 : ((a1 = none ∧ len1 = 0 ∧ cap1 = 0 ∧ z1 = []) ∨ ∃ x, a1 = some x ∧ len1 ≤ cap1 ∧ cap1 ≤ maxLen ∧ z1.length = cap1 ∧ (∀ i, i < z1.length → w.cell? (x.add i) = some (.int .u8 (z1.getD i 0))) ∧ ∀ n ∈ z1, (Lit.int .u8 n).wf = true)) (y1 : len1 * 1 ≤ 140737488351232) (w2x : (Lit.int .i64 a2x).wf = true) (w2y : (Lit.int .i64 a2y).wf = true) :
    Calls Try.prog 4 #[.slice a0 len0 cap0, .slice a1 len1 cap1, .agg #[.int .i64 a2x, .int .i64 a2y]] w fun e w' => e = .returned (.bool true) ∧ Below w.heap.size w w' := by
  obtain ⟨l0, rfl, hs0, hc0⟩ := src_of_row w0
  obtain ⟨l1, rfl, hs1, hc1⟩ := src_of_row w1
  have b2x : -9223372036854775808 ≤ a2x ∧ a2x ≤ 9223372036854775807 := by simpa [Lit.wf, IntKind.min, IntKind.max, IntKind.signed, IntKind.bits] using w2x
  have b2y : -9223372036854775808 ≤ a2y ∧ a2y ≤ 9223372036854775807 := by simpa [Lit.wf, IntKind.min, IntKind.max, IntKind.signed, IntKind.bits] using w2y
  exact swaps_calls a0 a1 cap0 cap1 l0 l1 a2x a2y w hs0 hs1 hc0 hc1

end Go.Proofs.Ytgpinkgfgkolfaa.PD
