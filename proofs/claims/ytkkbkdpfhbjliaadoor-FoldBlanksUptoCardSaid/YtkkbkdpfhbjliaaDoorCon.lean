/- The functions' contracts in plain lists, under the print's names. -/
import Derived.Test.YtkkbkdpfhbjliaaDoorPl3
namespace Go.Proofs.YtkkbkdpfhbjliaaDoor.PL
open Go.RowKit Go.Proofs.YtkkbkdpfhbjliaaDoorW.PrintWords Go.Proofs.YtkkbkdpfhbjliaaDoorW.PrintLast Go.Proofs.YtkkbkdpfhbjliaaDoorW.PrintMore
set_option linter.unusedVariables false
set_option linter.unusedSimpArgs false
set_option maxHeartbeats 4000000
set_option maxRecDepth 100000

open Go.Proofs Go.Lib Go.Proofs.YtkkbkdpfhbjliaaDoor.PF
def fold_Unfold.f (a0 : ByteArray) : Option (List ByteArray × Int) := if a0.size ≤ 1073741824 then some (resU (unfold a0.data.toList)) else none
theorem fold_Unfold.calls (a0 : ByteArray) (r1 : List ByteArray) (r2 : Int) (w : World) (h : fold_Unfold.f a0 = some (r1, r2)) :
    Calls Tryd.prog 9 #[.string a0] w fun e w' => ∃ v0_ : Value, e = .returned (.tuple #[v0_, .int .i64 r2]) ∧ Kd.R Kd.string 9 w' w.heap.size (fun _ => True) v0_ r1 ∧ Below w.heap.size w w' := by
  unfold fold_Unfold.f at h
  split at h
  · rename_i hs
    injection h with h
    exact PF.fold_Unfold.calls (3 * a0.size + 1) a0 r1 r2 w (by rw [Unfold_is a0 hs _ (by omega), h])
  · cases h
def fold_Good.f (a0 : ByteArray) : Option Bool := if a0.size ≤ 1073741824 then some (good a0.data.toList) else none
theorem fold_Good.calls (a0 : ByteArray) (r : Bool) (w : World) (h : fold_Good.f a0 = some r) :
    Calls Tryd.prog 15 #[.string a0] w fun e w' => e = .returned (.bool r) ∧ Below w.heap.size w w' := by
  unfold fold_Good.f at h
  split at h
  · rename_i hs
    injection h with h
    exact PF.fold_Good.calls a0 r w (by rw [Good_is a0 hs, h])
  · cases h
def calepinref02_Unfold.f (a0 : ByteArray) : Option (List ByteArray × Bool) := if a0.size ≤ 1073741824 then some (resR (unfold a0.data.toList)) else none
theorem calepinref02_Unfold.calls (a0 : ByteArray) (r1 : List ByteArray) (r2 : Bool) (w : World) (h : calepinref02_Unfold.f a0 = some (r1, r2)) :
    Calls Tryd.prog 10 #[.string a0] w fun e w' => ∃ v0_ : Value, e = .returned (.tuple #[v0_, .bool r2]) ∧ Kd.R Kd.string 9 w' w.heap.size (fun _ => True) v0_ r1 ∧ Below w.heap.size w w' := by
  unfold calepinref02_Unfold.f at h
  split at h
  · rename_i hs
    injection h with h
    obtain ⟨k, hk⟩ := RefUnfold_is a0 hs
    exact PF.calepinref02_Unfold.calls k a0 r1 r2 w (by rw [hk, h])
  · cases h
def calepinref02_Good.f (a0 : ByteArray) : Option Bool := if a0.size ≤ 1073741824 then some (good a0.data.toList) else none
theorem calepinref02_Good.calls (a0 : ByteArray) (r : Bool) (w : World) (h : calepinref02_Good.f a0 = some r) :
    Calls Tryd.prog 11 #[.string a0] w fun e w' => e = .returned (.bool r) ∧ Drawn0 w w' := by
  unfold calepinref02_Good.f at h
  split at h
  · rename_i hs
    injection h with h
    obtain ⟨k, hk⟩ := RefGood_is a0 hs
    exact PF.calepinref02_Good.calls k a0 r w (by rw [hk, h])
  · cases h
def calepinref02_Size.f (a0 : ByteArray) : Option Int := some ((sz a0.data.toList : Nat) : Int)
theorem calepinref02_Size.calls (a0 : ByteArray) (r : Int) (w : World) (h : calepinref02_Size.f a0 = some r) :
    Calls Tryd.prog 13 #[.string a0] w fun e w' => e = .returned (.int .i64 r) ∧ Drawn0 w w' :=
  PF.calepinref02_Size.calls 20 a0 r w ((Size_is a0).trans h)
def calepinref02_Fold.f (a0 : ByteArray) : Option ByteArray := if a0.size ≤ 1073741824 then some (mkB (foldL a0.data.toList)) else none
theorem calepinref02_Fold.calls (a0 : ByteArray) (r : ByteArray) (w : World) (h : calepinref02_Fold.f a0 = some r) :
    Calls Tryd.prog 14 #[.string a0] w fun e w' => e = .returned (.string r) ∧ Drawn0 w w' := by
  unfold calepinref02_Fold.f at h
  split at h
  · rename_i hs
    injection h with h
    obtain ⟨k, hk⟩ := RefFold_is a0 hs
    exact PF.calepinref02_Fold.calls k a0 r w (by rw [hk, h])
  · cases h
def fold_Fold.f (l0 : List ByteArray) : Option ByteArray := PF.fold_Fold.f l0
theorem fold_Fold.calls (A0 : Option Addr) (c0 : Nat) (l0 : List ByteArray) (r : ByteArray) (w : World) (hr0 : Kd.C Kd.string w A0 l0.length l0) (hc0 : l0.length ≤ c0) (h : fold_Fold.f l0 = some r) (hT : Lib.Utf8Tabs 1 2 w) :
    Calls Tryd.prog 12 #[.slice A0 l0.length c0] w fun e w' => e = .returned (.string r) ∧ Below w.heap.size w w' := PF.fold_Fold.calls A0 c0 l0 r w hr0 hc0 h hT

end Go.Proofs.YtkkbkdpfhbjliaaDoor.PL
