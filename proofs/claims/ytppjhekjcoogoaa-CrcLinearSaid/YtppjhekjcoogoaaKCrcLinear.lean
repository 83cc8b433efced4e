/- For all rows of bytes: the sum of three rows of one length, added bit by bit, is that of their sums. -/
import Derived.Test.YtppjhekjcoogoaaL1
namespace Go.Proofs.Ytppjhekjcoogoaa.PCrc
open Go.RowKit Go.Proofs.YtppjhekjcoogoaaW.PrintWords Go.Proofs.YtppjhekjcoogoaaW.PrintLast Go.Proofs.YtppjhekjcoogoaaW.PrintMore
open Go.Proofs.Ytppjhekjcoogoaa.PSum (okB)
set_option linter.unusedVariables false
theorem okB_of_wfCrcLinear {l : List Int} (h : ∀ x ∈ l, (Lit.int .u8 x).wf = true) : okB l := by
  intro x hx
  have h1 : 0 ≤ x ∧ x ≤ 255 := by simpa [Lit.wf, IntKind.min, IntKind.max, IntKind.signed, IntKind.bits] using h x hx
  omega
theorem CrcLinear_walk (a0 : Option Addr) (len0 cap0 : Nat) (z0 : List Int) (a1 : Option Addr) (len1 cap1 : Nat) (z1 : List Int) (a2 : Option Addr) (len2 cap2 : Nat) (z2 : List Int) (w : World) (w0 : ((a0 = none ∧ len0 = 0 ∧ cap0 = 0 ∧ z0 = []) ∨ ∃ x, a0 = some x ∧ len0 ≤ cap0 ∧ cap0 ≤ maxLen ∧ z0.length = cap0 ∧ (∀ i, i < z0.length → w.cell? (x.add i) = some (.int .u8 (z0.getD i 0))) ∧ ∀ n ∈ z0, (Lit.int .u8 n).wf = true)) (y0 : len0 * 1 ≤ 140737488351232) (w1 : ((a1 = none ∧ len1 = 0 ∧ cap1 = 0 ∧ z1 = []) ∨ ∃ x, a1 = some x ∧ len1 ≤ cap1 ∧ cap1 ≤ maxLen ∧ z1.length = cap1 ∧ (∀ i, i < z1.length → w.cell? (x.add i) = some (.int .u8 (z1.getD i 0))) ∧ ∀ n ∈ z1, (Lit.int .u8 n).wf = true)) (y1 : len1 * 1 ≤ 140737488351232) (w2 : ((a2 = none ∧ len2 = 0 ∧ cap2 = 0 ∧ z2 = []) ∨ ∃ x, a2 = some x ∧ len2 ≤ cap2 ∧ cap2 ≤ maxLen ∧ z2.length = cap2 ∧ (∀ i, i < z2.length → w.cell? (x.add i) = some (.int .u8 (z2.getD i 0))) ∧ ∀ n ∈ z2, (Lit.int .u8 n).wf = true)) (y2 : len2 * 1 ≤ 140737488351232) :
    Calls Try.prog 5 #[.slice a0 len0 cap0, .slice a1 len1 cap1, .slice a2 len2 cap2] w fun e w' => e = .returned (.bool true) ∧ Below w.heap.size w w' := by
  have cc0 : cap0 ≤ 9223372036854775807 := by
    rcases w0 with ⟨_, _, h, _⟩ | ⟨_, _, _, h, _⟩
    · omega
    · exact h
  obtain ⟨l0, rfl, hr0, hm0, hw0, hc0⟩ := ReadsInt.ofRowC w0
  have cc1 : cap1 ≤ 9223372036854775807 := by
    rcases w1 with ⟨_, _, h, _⟩ | ⟨_, _, _, h, _⟩
    · omega
    · exact h
  obtain ⟨l1, rfl, hr1, hm1, hw1, hc1⟩ := ReadsInt.ofRowC w1
  have cc2 : cap2 ≤ 9223372036854775807 := by
    rcases w2 with ⟨_, _, h, _⟩ | ⟨_, _, _, h, _⟩
    · omega
    · exact h
  obtain ⟨l2, rfl, hr2, hm2, hw2, hc2⟩ := ReadsInt.ofRowC w2
  obtain ⟨n, hn⟩ : ∃ n : Nat, mn (mn (mn (l0.length : Int) (l1.length : Int)) (l2.length : Int)) 2000 = (n : Int) := by
    refine ⟨(mn (mn (mn (l0.length : Int) (l1.length : Int)) (l2.length : Int)) 2000).toNat, ?_⟩
    have h : 0 ≤ mn (mn (mn (l0.length : Int) (l1.length : Int)) (l2.length : Int)) 2000 := by
      unfold mn
      split <;> split <;> split <;> omega
    omega
  exact linear_calls a0 a1 a2 cap0 cap1 cap2 l0 l1 l2 n w (Kd.C_of_reads (d := (0 : Int)) (h1 := fun _ => rfl) hr0) (Kd.C_of_reads (d := (0 : Int)) (h1 := fun _ => rfl) hr1) (Kd.C_of_reads (d := (0 : Int)) (h1 := fun _ => rfl) hr2) hc0 hc1 hc2 (okB_of_wfCrcLinear hw0) (okB_of_wfCrcLinear hw1) (okB_of_wfCrcLinear hw2) hn
end Go.Proofs.Ytppjhekjcoogoaa.PCrc
