/- The law's step: words. -/
import Derived.Test.YtgpinkgfgkolfaaSafL
namespace Go.Proofs.Ytgpinkgfgkolfaa.PD
open Go.RowKit Go.Proofs.YtgpinkgfgkolfaaW.PrintWords Go.Proofs.YtgpinkgfgkolfaaW.PrintLast Go.Proofs.YtgpinkgfgkolfaaW.PrintMore
set_option linter.unusedVariables false
set_option linter.unusedSimpArgs false
set_option maxHeartbeats 4000000
set_option maxRecDepth 100000

open Go.Proofs
abbrev okX (B x : Nat) : Nat → Prop := fun k => B ≤ k ∧ k ≠ x
abbrev okN (B x p r : Nat) : Nat → Prop := fun k => B ≤ k ∧ k ≠ x ∧ k ≠ p ∧ k ≠ r
abbrev opV (kd ni ti n : Int) (BA : Option Addr) (l c : Nat) : Value := .agg #[.int .i64 kd, .int .i64 ni, .int .i64 ti, .int .i64 n, .slice BA l c]
abbrev opC (kd ni ti n : Int) (BA : Option Addr) (l c : Nat) : Array Value := #[.int .i64 kd, .int .i64 ni, .int .i64 ti, .int .i64 n, .slice BA l c]
def IsB (e : Ending) : Prop := ∃ b, e = .returned (.bool b)
/-- What a step leaves. -/
def StepQ (B x d q k L l : Nat) (xs : List UInt8) (w w' : World) : Prop := (∃ A', Inv q xs A' ∧ Fine (k + 1) (L + l) A' ∧ DiskAt w' (okX B x) d A') ∧ Below B w w'
theorem nmB_max (k : Nat) : (nmB k).size ≤ maxLen := Nat.le_trans (nmB_size k) (by decide)
theorem step_fin {B x d q k L l p r : Nat} {xs : List UInt8} {A' : Ab} {w w2 w3 w4 : World} (h1 : Below B w w2) (hB : B ≤ w2.heap.size) (hBx : B ≤ x) (hk3 : Kp (okN B x p r) w2 w3) (hD : DiskAt w3 (okN B x p r) d A') (hk4 : Kp (fun k => k = x ∨ k = p ∨ k = r ∨ w3.heap.size ≤ k) w3 w4) (hp : B ≤ p) (hr : B ≤ r) (hI : Inv q xs A') (hF : Fine (k + 1) (L + l) A') :
    StepQ B x d q k L l xs w w4 := by
  refine ⟨⟨A', hI, hF, ?_⟩, ?_⟩
  · exact (hD.keep (fun k hk ho => hk4.block k hk (fun e => by
      rcases e with e | e | e | e
      · exact ho.2.1 e
      · exact ho.2.2.1 e
      · exact ho.2.2.2 e
      · omega))).mono (fun k _ ho => ⟨ho.1, ho.2.1⟩)
  · have h3 := hk3.below (B := B) hB (fun _ h => h.1)
    have h4 := hk4.below (B := B) (Nat.le_trans hB hk3.size) (fun j h => by
      rcases h with h | h | h | h
      · rw [h]; exact hBx
      · rw [h]; exact hp
      · rw [h]; exact hr
      · exact Nat.le_trans (Nat.le_trans hB hk3.size) h)
    exact (h1.trans h3).trans h4

end Go.Proofs.Ytgpinkgfgkolfaa.PD
