/- What PutText puts, in plain lists. -/
import Derived.Test.YtdjdbmopckhcdaaBuild2
namespace Go.Proofs.Ytdjdbmopckhcdaa.PV
open Go.RowKit Go.Proofs.YtdjdbmopckhcdaaW.PrintWords Go.Proofs.YtdjdbmopckhcdaaW.PrintLast Go.Proofs.YtdjdbmopckhcdaaW.PrintMore
open Go.Proofs
set_option linter.unusedVariables false
set_option linter.unusedSimpArgs false
set_option maxHeartbeats 4000000
set_option maxRecDepth 100000

def escL (b : UInt8) : List UInt8 := match esc b.toNat with
  | none => [b]
  | some (x, y) => [x, y]
def putL (l : List UInt8) : List UInt8 := l.flatMap escL
def isE (b : UInt8) : Bool := (esc b.toNat).isSome
def cntE (l : List UInt8) : Nat := (l.filter isE).length
theorem putL_nil : putL [] = [] := rfl
theorem putL_cons (b : UInt8) (l : List UInt8) : putL (b :: l) = escL b ++ putL l := by simp [putL]
theorem putL_append (l m : List UInt8) : putL (l ++ m) = putL l ++ putL m := by simp [putL]
theorem escL_length (b : UInt8) : (escL b).length = if isE b then 2 else 1 := by
  unfold escL isE
  cases h : esc b.toNat with
  | none => rfl
  | some p => rfl
theorem putL_length (l : List UInt8) : (putL l).length = l.length + cntE l := by
  induction l with
  | nil => rfl
  | cons b l ih =>
    rw [putL_cons, List.length_append, ih, escL_length]
    unfold cntE
    rw [List.filter_cons]
    by_cases h : isE b = true
    · rw [if_pos h, if_pos h, List.length_cons, List.length_cons]; omega
    · rw [if_neg h, if_neg h, List.length_cons]; omega
theorem putL_same (l : List UInt8) (h : cntE l = 0) : putL l = l := by
  induction l with
  | nil => rfl
  | cons b l ih =>
    unfold cntE at h
    rw [List.filter_cons] at h
    by_cases hb : isE b = true
    · rw [if_pos hb] at h; simp at h
    · rw [if_neg hb] at h
      rw [putL_cons, ih h]
      unfold escL
      unfold isE at hb
      cases he : esc b.toNat with
      | none => rfl
      | some p => rw [he] at hb; simp at hb
theorem isE_iff (b : UInt8) : isE b = (b == 10 || b == 59 || b == 44 || b == 92) := by
  have h : ∀ b : UInt8, isE b = (b == 10 || b == 59 || b == 44 || b == 92) := by
    intro b
    unfold isE esc
    have h92 : (b.toNat = 92) = (b = 92) := propext ⟨fun h => UInt8.toNat_inj.1 h, fun h => by rw [h]; rfl⟩
    have h44 : (b.toNat = 44) = (b = 44) := propext ⟨fun h => UInt8.toNat_inj.1 h, fun h => by rw [h]; rfl⟩
    have h59 : (b.toNat = 59) = (b = 59) := propext ⟨fun h => UInt8.toNat_inj.1 h, fun h => by rw [h]; rfl⟩
    have h10 : (b.toNat = 10) = (b = 10) := propext ⟨fun h => UInt8.toNat_inj.1 h, fun h => by rw [h]; rfl⟩
    simp only [h92, h44, h59, h10]
    by_cases c1 : b = 92
    · subst c1; rfl
    · by_cases c2 : b = 44
      · subst c2; rfl
      · by_cases c3 : b = 59
        · subst c3; rfl
        · by_cases c4 : b = 10
          · subst c4; rfl
          · simp [c1, c2, c3, c4]
  exact h b
/-- The counts of the first k of the tops. -/
def sums (l : List UInt8) : Nat → Nat
  | 0 => 0
  | 1 => l.count 10
  | 2 => l.count 10 + l.count 59
  | 3 => l.count 10 + l.count 59 + l.count 44
  | _ => l.count 10 + l.count 59 + l.count 44 + l.count 92
theorem sums_all (l : List UInt8) : sums l 4 = cntE l := by
  show l.count 10 + l.count 59 + l.count 44 + l.count 92 = _
  induction l with
  | nil => rfl
  | cons b l ih =>
    unfold cntE at *
    rw [List.filter_cons, isE_iff]
    simp only [List.count_cons]
    by_cases c1 : b = 10
    · subst c1; simp; omega
    · by_cases c2 : b = 59
      · subst c2; simp; omega
      · by_cases c3 : b = 44
        · subst c3; simp; omega
        · by_cases c4 : b = 92
          · subst c4; simp; omega
          · simp [c1, c2, c3, c4]; omega
theorem dones_esc (j : Nat) : dones 0 j = esc j := by unfold dones esc; simp

end Go.Proofs.Ytdjdbmopckhcdaa.PV
