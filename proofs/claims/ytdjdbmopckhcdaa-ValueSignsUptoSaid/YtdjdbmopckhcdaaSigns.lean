/- ValueSigns, in plain lists. -/
import Derived.Test.YtdjdbmopckhcdaaVLaw
import Derived.Test.YtdjdbmopckhcdaaPVx5
namespace Go.Proofs.Ytdjdbmopckhcdaa.PV
open Go.RowKit Go.Proofs.YtdjdbmopckhcdaaW.PrintWords Go.Proofs.YtdjdbmopckhcdaaW.PrintLast Go.Proofs.YtdjdbmopckhcdaaW.PrintMore
open Go.Proofs Go.Proofs.Ytdjdbmopckhcdaa
set_option linter.unusedVariables false
set_option linter.unusedSimpArgs false
set_option maxHeartbeats 4000000
set_option maxRecDepth 100000

theorem rd0 (x : ByteArray) (l : List ByteArray) : rdOf ByteArray.empty (x :: l) 0 = x := rfl
theorem ValueSigns_is (a0 a1 : ByteArray) (h0 : a0.size ≤ 1048576) (h1 : a1.size ≤ 1048576) : calepinlaw04_ValueSigns.f a0 a1 = some true := by
  have s0 : (putL a0.data.toList).length ≤ 2097152 := by rw [putL_length]; have := cntE_le a0.data.toList; have h : a0.data.toList.length = a0.size := rfl; omega
  have s1 : (putL a1.data.toList).length ≤ 2097152 := by rw [putL_length]; have := cntE_le a1.data.toList; have h : a1.data.toList.length = a1.size := rfl; omega
  unfold calepinlaw04_ValueSigns.f
  rw [first_is, Option.bind_some, if_pos rfl, put_f a0 (by omega), Option.bind_some]
  rw [list_f _ (by rw [mkB_size]; omega), Option.bind_some, Option.bind_some, fields_f _ (by rw [mkB_size]; omega), Option.bind_some]
  rw [if_pos (by omega), put_f (a0 ++ a1) (by rw [ByteArray.size_append]; omega), put_f a1 (by omega)]
  simp only [Option.bind_some]
  rw [if_pos (by rw [mkB_size, mkB_size]; omega)]
  have e : putL (a0 ++ a1).data.toList = putL a0.data.toList ++ putL a1.data.toList := by rw [ba_append, putL_append]
  rw [if_pos (by rw [ba_list, ba_list, mkB_list, e, ba_append, mkB_list, mkB_list])]
  rw [mkB_list, list_putL, fields_putL, mkB_data]
  simp only
  rw [if_pos trivial, if_pos (by simp), if_pos (by simp), if_pos (by rw [rd0]), if_pos trivial, if_pos (by simp), if_pos (by simp)]
  have hL : rd_L5 [[a0]] 0 = [a0] := rfl
  rw [hL, if_pos (by simp), if_pos (by simp), rd0]
  simp
theorem signs_walk (a0 a1 : ByteArray) (w : World) (h0 : a0.size ≤ 1048576) (h1 : a1.size ≤ 1048576) : Calls Try.prog 5 #[.string a0, .string a1] w fun e w' => e = .returned (.bool true) ∧ Below w.heap.size w w' :=
  calepinlaw04_ValueSigns.calls a0 a1 true w (ValueSigns_is a0 a1 h0 h1)

end Go.Proofs.Ytdjdbmopckhcdaa.PV
