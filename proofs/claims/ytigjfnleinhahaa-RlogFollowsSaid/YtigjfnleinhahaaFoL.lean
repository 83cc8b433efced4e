/- A follower that is led back by hints: in plain lists. -/
import Derived.Test.YtigjfnleinhahaaTwL
import Derived.Test.YtigjfnleinhahaaHint
namespace Go.Proofs.Ytigjfnleinhahaa.PLog
open Go.RowKit Go.Proofs.YtigjfnleinhahaaW.PrintWords Go.Proofs.YtigjfnleinhahaaW.PrintLast Go.Proofs.YtigjfnleinhahaaW.PrintMore
set_option linter.unusedVariables false
set_option linter.unusedSimpArgs false
theorem hintGo_bound (a t : Int) (es : List S60) (u : Int) : ∀ n : Nat, a ≤ hintGo a t es u n ∧ hintGo a t es u n ≤ a + n := by
  intro n
  induction n with
  | zero => simp [hintGo]
  | succ n ih =>
    simp only [hintGo]
    split <;> omega
/-- A hint is nearer than the place asked at. -/
theorem hint_nearer (es : List S60) (p : Nat) (hp : 0 < p) : 1 ≤ hintL 0 0 es (p : Int) ∧ hintL 0 0 es (p : Int) ≤ (p : Int) := by
  unfold hintL
  split
  · omega
  · rw [if_neg (by omega)]
    have := hintGo_bound 0 0 es (termAt 0 0 es (p : Int)).1 ((p : Int) - 0).toNat
    omega
theorem termAt_true (es : List S60) (p : Nat) (t : Int) (h : termAt 0 0 es (p : Int) = (t, true)) : p ≤ es.length := by
  unfold termAt at h
  split at h
  · omega
  · split at h
    · split at h
      · omega
      · injection h with _ h; cases h
    · injection h with _ h; cases h
theorem from_hundred (es : List S60) (p : Nat) (hl : es.length ≤ 100) (hp : p ≤ es.length) : fromL 0 es ((p : Int) + 1) 100 = es.drop p := by
  unfold fromL
  rw [if_neg (by omega)]
  by_cases h : (0 : Int) + es.length < (p : Int) + 1
  · rw [if_pos h, List.drop_of_length_le (by omega)]
  · rw [if_neg h, if_neg (by omega)]
    have e : ((p : Int) + 1 - 0 - 1).toNat = p := by omega
    rw [e, List.take_of_length_le]
    rw [List.length_drop]
    have : ((100 : Int)).toNat = 100 := rfl
    omega
/-- A merge at a place where both logs have one term: from there on the follower has the leader's terms. -/
theorem follow_done (ef el : List S60) (p : Nat) (hl : p ≤ el.length) (h : termAt 0 0 ef (p : Int) = ((termAt 0 0 el (p : Int)).1, true)) : ∃ (n : Int) (e1 : List S60), mergeL 0 0 ef (p : Int) (termAt 0 0 el (p : Int)).1 (el.drop p) = (n, true, e1) ∧ e1.length ≤ ef.length + el.length ∧
    ∀ i : Nat, p ≤ i → i ≤ el.length → termAt 0 0 e1 (i : Int) = ((termAt 0 0 el (i : Int)).1, true) := by
  have hp := termAt_true ef p _ h
  obtain ⟨n, e1, h1, h2, h3, h4, h5, h6, h7⟩ := merge_leaves ef (el.drop p) p hp
  refine ⟨n, e1, ?_, ?_, fun i hi hil => ?_⟩
  · have := mergeL_in ef (el.drop p) p hp
    rw [h] at this
    rw [this, h1]
  · rw [List.length_drop] at h5; omega
  · rcases Nat.lt_or_ge p i with hlt | hge
    · have h8 := h7 (i - p - 1) (by rw [List.length_drop]; omega)
      rw [show (p : Int) + 1 + ((i - p - 1 : Nat) : Int) = (i : Int) by omega] at h8
      rw [h8]
      have h9 := termAt_nat el (i - 1) (by omega)
      rw [show ((i - 1 : Nat) : Int) + 1 = (i : Int) by omega] at h9
      rw [h9, List.getElem_drop]
      congr 3
      omega
    · have : i = p := by omega
      subst this
      rw [termAt_take ef e1 i hp h4 h3, h]
end Go.Proofs.Ytigjfnleinhahaa.PLog
