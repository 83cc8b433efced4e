/- An operation that is not wanted. -/
import Derived.Test.YtigjfnleinhahaaRegB
import Derived.Test.YtigjfnleinhahaaOwn

namespace Go.Proofs.Ytigjfnleinhahaa.PLog
open Go.RowKit Go.Proofs.YtigjfnleinhahaaW.PrintWords Go.Proofs.YtigjfnleinhahaaW.PrintLast Go.Proofs.YtigjfnleinhahaaW.PrintMore
open Go.Proofs.Ytigjfnleinhahaa.Reg
set_option linter.unusedVariables false
set_option linter.unusedSimpArgs false
set_option maxHeartbeats 4000000
set_option maxRecDepth 100000

theorem wpOp_skip {P : Program} {ops : Array Oper} {Q : Exit → Act → World → Prop} {i g d : Nat} {b b' : Bool} {o : Oper} {a : Act} {w : World} {K : Act → World → Prop} (h : ops[i]? = some o) (hg : o.guard = some (g, b)) (hd : (ops[g]?).bind (·.dst) = some d) (hv : a.tmps[d]?.getD undef = .bool b') (hne : (b' == b) = false) (hh : K (a.put o.dst undef) w) : wpOp P ops Q i K a w := by
  unfold wpOp
  rw [h]
  have hy : yielded ops a.tmps g = some b' := by
    unfold yielded
    rw [hd]
    cases e : a.tmps[d]? with
    | none => rw [e] at hv; cases hv
    | some x => rw [e] at hv; have hx : x = .bool b' := hv; simp [e, hx]
  have hw : Region.wanted o (yielded ops a.tmps) = false := by
    simp only [Region.wanted, hg, hy]
    simpa using hne
  simp only [hw]
  exact hh

end Go.Proofs.Ytigjfnleinhahaa.PLog
