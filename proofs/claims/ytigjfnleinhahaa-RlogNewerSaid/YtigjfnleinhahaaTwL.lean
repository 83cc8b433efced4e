/- What was merged once changes nothing when it comes again: in plain lists. -/
import Derived.Test.YtigjfnleinhahaaMerge3
import Derived.Test.YtigjfnleinhahaaFrom
namespace Go.Proofs.Ytigjfnleinhahaa.PLog
open Go.RowKit Go.Proofs.YtigjfnleinhahaaW.PrintWords Go.Proofs.YtigjfnleinhahaaW.PrintLast Go.Proofs.YtigjfnleinhahaaW.PrintMore
set_option linter.unusedVariables false
set_option linter.unusedSimpArgs false
theorem termAt_nat (es : List S60) (j : Nat) (h : j < es.length) : termAt 0 0 es ((j : Int) + 1) = (es[j].f0, true) := by
  unfold termAt
  rw [if_neg (by omega), if_pos (by omega), if_pos (by omega)]
  have : rd_T60 es ((j : Int) + 1 - 0 - 1) = es[j] := by
    rw [show (j : Int) + 1 - 0 - 1 = (j : Int) by omega]
    simp [rd_T60, h]
  rw [this]
theorem termAt_in (es : List S60) (k : Nat) (h : k ≤ es.length) : (termAt 0 0 es (k : Int)).2 = true := by
  rcases k with _ | k
  · rfl
  · have := termAt_nat es k (by omega)
    rw [show ((k + 1 : Nat) : Int) = (k : Int) + 1 by omega, this]
theorem firstBad_none (a t : Int) (es : List S60) (p : Int) : ∀ (l : List S60) (i : Nat), (∀ j (h : j < l.length), termAt a t es (p + 1 + ((i + j : Nat) : Int)) = (l[j].f0, true)) → firstBad a t es p l i = none := by
  intro l
  induction l with
  | nil => intro i _; rfl
  | cons y l ih =>
    intro i h
    have h0 := h 0 (by simp)
    simp only [firstBad]
    rw [if_pos (by simpa using h0)]
    refine ih (i + 1) (fun j hj => ?_)
    have := h (j + 1) (by simp; omega)
    rw [show i + 1 + j = i + (j + 1) by omega]
    simpa using this
theorem firstBad_fits (a t : Int) (es : List S60) (p : Int) : ∀ (l : List S60) (i : Nat), firstBad a t es p l i = none → ∀ j (h : j < l.length), termAt a t es (p + 1 + ((i + j : Nat) : Int)) = (l[j].f0, true) := by
  intro l
  induction l with
  | nil => intro i _ j h; simp at h
  | cons y l ih =>
    intro i h j hj
    simp only [firstBad] at h
    split at h
    · rename_i ht
      rcases j with _ | j
      · simpa using ht
      · have := ih (i + 1) h j (by simp at hj; omega)
        rw [show i + (j + 1) = i + 1 + j by omega]
        simpa using this
    · cases h
theorem firstBad_some (a t : Int) (es : List S60) (p : Int) : ∀ (l : List S60) (i m : Nat), firstBad a t es p l i = some m → i ≤ m ∧ m < i + l.length ∧ ∀ j (h : j < l.length), i + j < m → termAt a t es (p + 1 + ((i + j : Nat) : Int)) = (l[j].f0, true) := by
  intro l
  induction l with
  | nil => intro i m h; cases h
  | cons y l ih =>
    intro i m h
    simp only [firstBad] at h
    split at h
    · rename_i ht
      obtain ⟨h1, h2, h3⟩ := ih (i + 1) m h
      refine ⟨by omega, by simp; omega, fun j hj hm => ?_⟩
      rcases j with _ | j
      · simpa using ht
      · have := h3 j (by simp at hj; omega) (by omega)
        rw [show i + (j + 1) = i + 1 + j by omega]
        simpa using this
    · cases h
      refine ⟨Nat.le_refl _, by simp, fun j _ hm => by omega⟩
/-- What a merge leaves. -/
theorem merge_leaves (es bs : List S60) (k : Nat) (hk : k ≤ es.length) : ∃ (n : Int) (es1 : List S60), mergeBody 0 0 es (k : Int) bs = (n, true, es1) ∧ (k : Int) < n ∧ es1.take k = es.take k ∧ k ≤ es1.length ∧ es1.length ≤ es.length + bs.length ∧ (∀ x ∈ es1, x ∈ es ∨ x ∈ bs) ∧
    (∀ j (h : j < bs.length), termAt 0 0 es1 ((k : Int) + 1 + (j : Int)) = (bs[j].f0, true)) := by
  unfold mergeBody
  cases e : firstBad 0 0 es (k : Int) bs 0 with
  | none =>
    refine ⟨_, es, rfl, by omega, rfl, hk, by omega, fun x h => .inl h, fun j hj => ?_⟩
    have := firstBad_fits 0 0 es k bs 0 e j hj
    rw [Nat.zero_add] at this
    exact this
  | some i =>
    obtain ⟨-, h2, h3⟩ := firstBad_some 0 0 es k bs 0 i e
    have h4 := (firstBad_le 0 0 es (k : Int) (by omega) (by omega) bs 0 i (by omega) e).1
    have e1 : ((k : Int) + (i : Int) - 0).toNat = k + i := by omega
    refine ⟨(k : Int) + 1 + (i : Int), es.take (k + i) ++ bs.drop i, by simp only [e1], by omega, ?_, ?_, ?_, ?_, ?_⟩
    · rw [List.take_append_of_le_length (by rw [List.length_take]; omega), List.take_take]
      congr 1
      omega
    · rw [List.length_append, List.length_take]; omega
    · rw [List.length_append, List.length_take, List.length_drop]; omega
    · intro x hx
      rcases List.mem_append.1 hx with h | h
      · exact .inl (List.mem_of_mem_take h)
      · exact .inr (List.mem_of_mem_drop h)
    · intro j hj
      have hlen : (es.take (k + i)).length = k + i := by rw [List.length_take]; omega
      have hjl : k + j < (es.take (k + i) ++ bs.drop i).length := by rw [List.length_append, hlen, List.length_drop]; omega
      have ht := termAt_nat (es.take (k + i) ++ bs.drop i) (k + j) hjl
      rw [show ((k + j : Nat) : Int) + 1 = (k : Int) + 1 + (j : Int) by omega] at ht
      rw [ht]
      congr 1
      by_cases hji : j < i
      · have h5 := h3 j hj (by omega)
        have h6 := termAt_nat es (k + j) (by omega)
        rw [show ((k + j : Nat) : Int) + 1 = (k : Int) + 1 + ((0 + j : Nat) : Int) by omega, h5] at h6
        injection h6 with h6 _
        rw [h6, List.getElem_append_left (by omega), List.getElem_take]
      · rw [List.getElem_append_right (by omega), List.getElem_drop]
        congr 2
        omega
theorem termAt_take (es es1 : List S60) (k : Nat) (hk : k ≤ es.length) (hk1 : k ≤ es1.length) (h : es1.take k = es.take k) : termAt 0 0 es1 (k : Int) = termAt 0 0 es (k : Int) := by
  rcases k with _ | k
  · rfl
  · rw [show ((k + 1 : Nat) : Int) = (k : Int) + 1 by omega, termAt_nat es1 k (by omega), termAt_nat es k (by omega)]
    have := congrArg (fun l => l[k]?) h
    simp only [List.getElem?_take, if_pos (show k < k + 1 by omega)] at this
    rw [List.getElem?_eq_getElem (by omega), List.getElem?_eq_getElem (by omega)] at this
    rw [Option.some.inj this]
/-- Once merged, nothing changes: by all of it, or by a beginning. -/
theorem merge_again (es1 bs : List S60) (k : Nat) (m : Nat) (h : ∀ j (h : j < bs.length), termAt 0 0 es1 ((k : Int) + 1 + (j : Int)) = (bs[j].f0, true)) : mergeBody 0 0 es1 (k : Int) (bs.take m) = ((es1.length : Int) + 1, true, es1) := by
  unfold mergeBody
  rw [firstBad_none 0 0 es1 k (bs.take m) 0 (fun j hj => by
    rw [Nat.zero_add, List.getElem_take]
    exact h j (by rw [List.length_take] at hj; omega))]
  simp
theorem mergeL_in (es bs : List S60) (k : Nat) (hk : k ≤ es.length) : mergeL 0 0 es (k : Int) (termAt 0 0 es (k : Int)).1 bs = mergeBody 0 0 es (k : Int) bs := by
  unfold mergeL
  rw [if_pos (by omega), if_pos (by rw [← termAt_in es k hk])]
theorem from_one (es : List S60) (m : Nat) (hm : m ≤ es.length) : fromL 0 es 1 (m : Int) = es.take m := by
  unfold fromL
  rw [if_neg (by omega)]
  by_cases h : (0 : Int) + es.length < 1
  · rw [if_pos h]
    have : es = [] := List.eq_nil_of_length_eq_zero (by omega)
    subst this
    simp
  · rw [if_neg h]
    by_cases h1 : (m : Int) < 1
    · rw [if_pos h1]
      have : m = 0 := by omega
      subst this
      rfl
    · rw [if_neg h1]
      simp
end Go.Proofs.Ytigjfnleinhahaa.PLog
