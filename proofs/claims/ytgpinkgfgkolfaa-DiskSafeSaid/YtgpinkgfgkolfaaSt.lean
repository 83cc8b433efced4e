/- The law's step whole. -/
import Derived.Test.YtgpinkgfgkolfaaStepC
import Derived.Test.YtgpinkgfgkolfaaStepB
import Derived.Test.YtgpinkgfgkolfaaStepA
namespace Go.Proofs.Ytgpinkgfgkolfaa.PD
open Go.RowKit Go.Proofs.YtgpinkgfgkolfaaW.PrintWords Go.Proofs.YtgpinkgfgkolfaaW.PrintLast Go.Proofs.YtgpinkgfgkolfaaW.PrintMore
set_option linter.unusedVariables false
set_option linter.unusedSimpArgs false
set_option maxHeartbeats 4000000
set_option maxRecDepth 100000

open Go.Proofs
theorem step_calls (B x d q k L : Nat) (xs bs : List UInt8) (A : Ab) (kd ni ti n : Int) (BA : Option Addr) (c : Nat) (w : World) (h : DiskAt w (okX B x) d A) (hx : RAt w x 1048576) (hBx : B ≤ x) (hB : B ≤ w.heap.size) (hI : Inv q xs A) (hF : Fine k L A) (hqs : q < w.heap.size)
    (hn : -9223372036854775808 ≤ n ∧ n ≤ 9223372036854775807) (hs : ∀ W, Below B w W → SrcAt W (.slice BA bs.length c) bs) (hbl : bs.length ≤ 1000) (hkL : k ≤ 1000000 ∧ L ≤ 1000000) :
    Calls Try.prog 18 #[fptr d, fptr x, opV kd ni ti n BA bs.length c] w fun e w' => IsB e ∧ StepQ B x d q k L bs.length xs w w' := by
  obtain ⟨m, hm, g1'⟩ := u64_tmod kd 9 (by decide)
  have g1 : (IntKind.u64.wrap kd).tmod 9 = (m : Int) := g1'
  match m, hm with
  | 0, _ => exact step_write B x d q k L xs bs A kd ni ti n BA c w h hx hBx hB hI hF hqs g1 hn hs hbl hkL
  | 1, _ => exact step_cut B x d q k L xs bs A kd ni ti n BA c w h hx hBx hB hI hF hqs g1 hn hs hbl hkL
  | 2, _ => exact step_sync B x d q k L xs bs A kd ni ti n BA c w h hx hBx hB hI hF hqs g1 hn hs hbl hkL
  | 3, _ => exact step_ren B x d q k L xs bs A kd ni ti n BA c w h hx hBx hB hI hF hqs g1 hn hs hbl hkL
  | 4, _ => exact step_rem B x d q k L xs bs A kd ni ti n BA c w h hx hBx hB hI hF hqs g1 hn hs hbl hkL
  | 5, _ => exact step_flush B x d q k L xs bs A kd ni ti n BA c w h hx hBx hB hI hF hqs g1 hn hs hbl hkL
  | 6, _ => exact step_crash B x d q k L xs bs A kd ni ti n BA c w h hx hBx hB hI hF hqs g1 hn hs hbl hkL
  | 7, _ => exact step_fail B x d q k L xs bs A kd ni ti n BA c w h hx hBx hB hI hF hqs g1 hn hs hbl hkL
  | 8, _ => exact step_read B x d q k L xs bs A kd ni ti n BA c w h hx hBx hB hI hF hqs g1 hn hs hbl hkL

end Go.Proofs.Ytgpinkgfgkolfaa.PD
