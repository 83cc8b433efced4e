/- For all uses of eight sessions: the ninth sends away the one that was used the longest ago. -/
import Derived.Test.YtahkokbfghifhaaRoom
namespace Go.Proofs.Ytahkokbfghifhaa.PS
open Go.RowKit Go.Proofs.YtahkokbfghifhaaW.PrintWords Go.Proofs.YtahkokbfghifhaaW.PrintLast Go.Proofs.YtahkokbfghifhaaW.PrintMore
set_option linter.unusedVariables false
theorem SessionRoom_walk (a0 : Option Addr) (len0 cap0 : Nat) (z0 : List Int) (w : World) (w0 : ((a0 = none ∧ len0 = 0 ∧ cap0 = 0 ∧ z0 = []) ∨ ∃ x, a0 = some x ∧ len0 ≤ cap0 ∧ cap0 ≤ maxLen ∧ z0.length = cap0 ∧ (∀ i, i < z0.length → w.cell? (x.add i) = some (.int .i64 (z0.getD i 0))) ∧ ∀ n ∈ z0, (Lit.int .i64 n).wf = true)) (y0 : len0 * 8 ≤ 140737488351232) :
    Calls Try.prog 4 #[.slice a0 len0 cap0] w fun e w' => e = .returned (.bool true) ∧ Below w.heap.size w w' := by
  have cc0 : cap0 ≤ 9223372036854775807 := by
    rcases w0 with ⟨_, _, h, _⟩ | ⟨_, _, _, h, _⟩
    · omega
    · exact h
  obtain ⟨l0, rfl, hr0, hm0, hw0, hc0⟩ := ReadsInt.ofRowC w0
  exact room_law a0 cap0 l0 w (Kd.C_of_reads (d := (0 : Int)) (h1 := fun _ => rfl) hr0) hw0
end Go.Proofs.Ytahkokbfghifhaa.PS
