/- The law's Name. -/
import Derived.Test.YtgpinkgfgkolfaaCut
namespace Go.Proofs.Ytgpinkgfgkolfaa.PD
open Go.RowKit Go.Proofs.YtgpinkgfgkolfaaW.PrintWords Go.Proofs.YtgpinkgfgkolfaaW.PrintLast Go.Proofs.YtgpinkgfgkolfaaW.PrintMore
set_option linter.unusedVariables false
set_option linter.unusedSimpArgs false
set_option maxHeartbeats 4000000
set_option maxRecDepth 100000

open Go.Proofs
/-- The names that the law gives. -/
def nmB : Nat → ByteArray
  | 0 => ⟨#[102]⟩
  | 1 => ⟨#[103]⟩
  | 2 => ⟨#[104]⟩
  | _ => ⟨#[]⟩
theorem nmB_size (k : Nat) : (nmB k).size ≤ 1 := by
  unfold nmB; split <;> decide
set_option maxHeartbeats 4000000 in
theorem name_calls (n : Int) (w : World) : Calls Try.prog 33 #[.int .i64 n] w fun e w' => ∃ k, k < 4 ∧ e = .returned (.string (nmB k)) ∧ Below w.heap.size w w' := by
  obtain ⟨k, hk, g1'⟩ := u64_tmod n 4 (by decide)
  have g1 : (IntKind.u64.wrap n).tmod 4 = (k : Int) := g1'
  clear g1'
  have hc : k = 0 ∨ k = 1 ∨ k = 2 ∨ k = 3 := by omega
  clear hk
  have HB := Aside0.mk (fun (T : TypeId) (cs : Array Value) => below_alloc (Below.refl w.heap.size w) (.cells cs T))
  rcases hc with rfl | rfl | rfl | rfl
  · go_enter Try.func33, Try.ntmps33
    go_wp2_with fail
    go_ret
    exact ⟨0, by decide, rfl, HB.out _ _⟩
  · go_enter Try.func33, Try.ntmps33
    go_wp2_with fail
    go_ret
    exact ⟨1, by decide, rfl, HB.out _ _⟩
  · go_enter Try.func33, Try.ntmps33
    go_wp2_with fail
    go_ret
    exact ⟨2, by decide, rfl, HB.out _ _⟩
  · go_enter Try.func33, Try.ntmps33
    go_wp2_with fail
    go_ret
    exact ⟨3, by decide, rfl, HB.out _ _⟩

end Go.Proofs.Ytgpinkgfgkolfaa.PD
