/- The functions' contracts in plain lists, under the print's names. -/
import Derived.Test.YtjgialebelndmaaDoorPPl
namespace Go.Proofs.YtjgialebelndmaaDoor.PH
open Go.RowKit Go.Proofs.YtjgialebelndmaaDoorW.PrintWords Go.Proofs.YtjgialebelndmaaDoorW.PrintLast Go.Proofs.YtjgialebelndmaaDoorW.PrintMore
open Go.Shelf
set_option linter.unusedVariables false
set_option linter.unusedSimpArgs false
set_option maxHeartbeats 4000000
set_option maxRecDepth 100000

open Go.Proofs Go.Lib Go.Proofs.YtjgialebelndmaaDoor.PF Go.Proofs.YtjgialebelndmaaDoor.PG
def resE : Option (List UInt8) → ByteArray × Int
  | none => (⟨#[]⟩, 60)
  | some r => (mkB r, 0)
def resQ : Option (List UInt8 × List UInt8) → ByteArray × ByteArray × Int
  | none => (⟨#[]⟩, ⟨#[]⟩, 60)
  | some r => (mkB r.1, mkB r.2, 0)
def path_Segment.f (a0 : ByteArray) : Option (ByteArray × Int) := if a0.size ≤ 1073741824 then some (resE (if fitsL a0.data.toList then some (escL a0.data.toList) else none)) else none
theorem path_Segment.calls (a0 : ByteArray) (r1 : ByteArray) (r2 : Int) (w : World) (h : path_Segment.f a0 = some (r1, r2)) (hT : Tabs w) :
    Calls Tryd.prog 8 #[.string a0] w fun e w' => e = .returned (.tuple #[.string r1, .int .i64 r2]) ∧ Below w.heap.size w w' := by
  unfold path_Segment.f at h
  split at h
  · rename_i hs
    injection h with h
    have := segment_calls a0 hs w hT
    cases hf : fitsL a0.data.toList with
    | true => rw [hf] at h this; cases h; exact this
    | false => rw [hf] at h this; cases h; exact this
  · cases h
def path_Of.f (a0 a1 : ByteArray) : Option (ByteArray × Int) := if a0.size ≤ 1073741824 ∧ a1.size ≤ 1073741824 then some (resE (ofL a0.data.toList a1.data.toList)) else none
theorem path_Of.calls (a0 a1 : ByteArray) (r1 : ByteArray) (r2 : Int) (w : World) (h : path_Of.f a0 a1 = some (r1, r2)) (hT : Tabs w) :
    Calls Tryd.prog 11 #[.string a0, .string a1] w fun e w' => e = .returned (.tuple #[.string r1, .int .i64 r2]) ∧ Below w.heap.size w w' := by
  unfold path_Of.f at h
  split at h
  · rename_i hs
    injection h with h
    have := of_calls a0 a1 hs.1 hs.2 w hT
    cases hf : ofL a0.data.toList a1.data.toList with
    | some r => rw [hf] at h this; cases h; exact this
    | none => rw [hf] at h this; cases h; exact this
  · cases h
def path_Parse.f (a0 : ByteArray) : Option (ByteArray × ByteArray × Int) := if a0.size ≤ 1073741824 then some (resQ (prsL a0.data.toList)) else none
theorem path_Parse.calls (a0 : ByteArray) (r1 r2 : ByteArray) (r3 : Int) (w : World) (h : path_Parse.f a0 = some (r1, r2, r3)) (hT : Tabs w) :
    Calls Tryd.prog 13 #[.string a0] w fun e w' => e = .returned (.tuple #[.string r1, .string r2, .int .i64 r3]) ∧ Below w.heap.size w w' := by
  unfold path_Parse.f at h
  split at h
  · rename_i hs
    injection h with h
    have := parse_calls a0 hs w hT
    rw [prsS_is] at this
    cases hf : prsL a0.data.toList with
    | some r => rw [hf] at h this; cases h; exact this
    | none => rw [hf] at h this; cases h; exact this
  · cases h
def calepinref06_Fits.f (a0 : ByteArray) : Option Bool := some (fitsL a0.data.toList)
theorem calepinref06_Fits.calls (a0 : ByteArray) (r : Bool) (w : World) (h : calepinref06_Fits.f a0 = some r) :
    Calls Tryd.prog 9 #[.string a0] w fun e w' => e = .returned (.bool r) ∧ Drawn0 w w' := by
  unfold calepinref06_Fits.f at h
  exact PG.calepinref06_Fits.calls (a0.size + 21) a0 r w ((Fits_is a0 _ (Nat.le_refl _)).trans h)
def calepinref06_Segment.f (a0 : ByteArray) : Option ByteArray := if a0.size ≤ 1073741824 then some (mkB (escL a0.data.toList)) else none
theorem calepinref06_Segment.calls (a0 : ByteArray) (r : ByteArray) (w : World) (h : calepinref06_Segment.f a0 = some r) :
    Calls Tryd.prog 10 #[.string a0] w fun e w' => e = .returned (.string r) ∧ Below w.heap.size w w' := PF.calepinref06_Segment.calls a0 r w h
def calepinref06_Of.f (a0 a1 : ByteArray) : Option (ByteArray × Bool) := if a0.size ≤ 1073741824 ∧ a1.size ≤ 1073741824 then some (resO (ofL a0.data.toList a1.data.toList)) else none
theorem calepinref06_Of.calls (a0 a1 : ByteArray) (r1 : ByteArray) (r2 : Bool) (w : World) (h : calepinref06_Of.f a0 a1 = some (r1, r2)) :
    Calls Tryd.prog 12 #[.string a0, .string a1] w fun e w' => e = .returned (.tuple #[.string r1, .bool r2]) ∧ Below w.heap.size w w' := by
  unfold calepinref06_Of.f at h
  split at h
  · rename_i hs
    obtain ⟨k, hk⟩ := Of_is a0 a1 hs.1 hs.2
    exact PG.calepinref06_Of.calls k a0 a1 r1 r2 w (hk.trans h)
  · cases h
def calepinref06_Parse.f (a0 : ByteArray) : Option (ByteArray × ByteArray × Bool) := if a0.size ≤ 1073741824 then some (resP (prsL a0.data.toList)) else none
theorem calepinref06_Parse.calls (a0 : ByteArray) (r1 r2 : ByteArray) (r3 : Bool) (w : World) (h : calepinref06_Parse.f a0 = some (r1, r2, r3)) :
    Calls Tryd.prog 14 #[.string a0] w fun e w' => e = .returned (.tuple #[.string r1, .string r2, .bool r3]) ∧ Below w.heap.size w w' := by
  unfold calepinref06_Parse.f at h
  split at h
  · rename_i hs
    obtain ⟨k, hk⟩ := Parse_is a0 hs
    exact PG.calepinref06_Parse.calls k a0 r1 r2 r3 w (hk.trans h)
  · cases h

end Go.Proofs.YtjgialebelndmaaDoor.PH
