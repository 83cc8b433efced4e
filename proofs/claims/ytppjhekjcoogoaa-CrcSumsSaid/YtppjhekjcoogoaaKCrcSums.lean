/- For all bytes and every cut: the sum of the bytes is the document's, however they are parted. -/
import Derived.Test.YtppjhekjcoogoaaS1
namespace Go.Proofs.Ytppjhekjcoogoaa.PCrc
open Go.RowKit Go.Proofs.YtppjhekjcoogoaaW.PrintWords Go.Proofs.YtppjhekjcoogoaaW.PrintLast Go.Proofs.YtppjhekjcoogoaaW.PrintMore
open Go.Proofs.Ytppjhekjcoogoaa.PSum (okB)
set_option linter.unusedVariables false
theorem okB_of_wfCrcSums {l : List Int} (h : ∀ x ∈ l, (Lit.int .u8 x).wf = true) : okB l := by
  intro x hx
  have h1 : 0 ≤ x ∧ x ≤ 255 := by simpa [Lit.wf, IntKind.min, IntKind.max, IntKind.signed, IntKind.bits] using h x hx
  omega
theorem CrcSums_walk (a0 : Option Addr) (len0 cap0 : Nat) (z0 : List Int) (a1 : Int) (w : World) (w0 : ((a0 = none ∧ len0 = 0 ∧ cap0 = 0 ∧ z0 = []) ∨ ∃ x, a0 = some x ∧ len0 ≤ cap0 ∧ cap0 ≤ maxLen ∧ z0.length = cap0 ∧ (∀ i, i < z0.length → w.cell? (x.add i) = some (.int .u8 (z0.getD i 0))) ∧ ∀ n ∈ z0, (Lit.int .u8 n).wf = true)) (y0 : len0 * 1 ≤ 140737488351232) (w1 : (Lit.int .i64 a1).wf = true) :
    Calls Try.prog 3 #[.slice a0 len0 cap0, .int .i64 a1] w fun e w' => e = .returned (.bool true) ∧ Below w.heap.size w w' := by
  have cc0 : cap0 ≤ 9223372036854775807 := by
    rcases w0 with ⟨_, _, h, _⟩ | ⟨_, _, _, h, _⟩
    · omega
    · exact h
  obtain ⟨l0, rfl, hr0, hm0, hw0, hc0⟩ := ReadsInt.ofRowC w0
  have b1 : -9223372036854775808 ≤ a1 ∧ a1 ≤ 9223372036854775807 := by simpa [Lit.wf, IntKind.min, IntKind.max, IntKind.signed, IntKind.bits] using w1
  exact sums_calls a0 cap0 l0 a1 w (Kd.C_of_reads (d := (0 : Int)) (h1 := fun _ => rfl) hr0) hc0 cc0 (okB_of_wfCrcSums hw0) b1
end Go.Proofs.Ytppjhekjcoogoaa.PCrc
