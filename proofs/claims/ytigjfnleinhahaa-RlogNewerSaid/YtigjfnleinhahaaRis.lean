/- rising: small terms, in order; in plain lists. -/
import Derived.Test.YtigjfnleinhahaaOwn
namespace Go.Proofs.Ytigjfnleinhahaa.PLog
open Go.RowKit Go.Proofs.YtigjfnleinhahaaW.PrintWords Go.Proofs.YtigjfnleinhahaaW.PrintLast Go.Proofs.YtigjfnleinhahaaW.PrintMore
set_option linter.unusedVariables false
set_option linter.unusedSimpArgs false
/-- What a number adds to the term. -/
def dd (x : Int) : Int := wrap64 (IntKind.u64.wrap (Int.tdiv (Int.tmod (IntKind.u64.wrap x) 3) 2))
theorem dd_bound (x : Int) : 0 ≤ dd x ∧ dd x ≤ 1 := by
  have h : 0 ≤ IntKind.u64.wrap x := by
    have := IntKind.wrap_u64 x
    rw [this]; omega
  unfold dd
  generalize IntKind.u64.wrap x = y at h
  have h1 : 0 ≤ Int.tmod y 3 ∧ Int.tmod y 3 < 3 := ⟨Int.tmod_nonneg _ h, by have := Int.tmod_lt_of_pos y (show (0 : Int) < 3 by decide); exact this⟩
  generalize Int.tmod y 3 = z at h1
  have h2 : z = 0 ∨ z = 1 ∨ z = 2 := by omega
  rcases h2 with rfl | rfl | rfl
  · rw [show Int.tdiv 0 2 = 0 by rfl, IntKind.wrap_u64]; unfold wrap64; omega
  · rw [show Int.tdiv 1 2 = 0 by rfl, IntKind.wrap_u64]; unfold wrap64; omega
  · rw [show Int.tdiv 2 2 = 1 by rfl, IntKind.wrap_u64]; unfold wrap64; omega
/-- Terms that rise from t. -/
def risL : Int → List Int → List Int
  | _, [] => []
  | t, x :: l => (t + dd x) :: risL (t + dd x) l
def tEnd : Int → List Int → Int
  | t, [] => t
  | t, x :: l => tEnd (t + dd x) l
theorem risL_length (l : List Int) : ∀ t, (risL t l).length = l.length := by
  induction l with
  | nil => intro t; rfl
  | cons x l ih => intro t; simp [risL, ih]
theorem risL_snoc (l : List Int) (x : Int) : ∀ t, risL t (l ++ [x]) = risL t l ++ [tEnd t (l ++ [x])] := by
  induction l with
  | nil => intro t; rfl
  | cons y l ih => intro t; simp [risL, tEnd, ih]
theorem tEnd_snoc (l : List Int) (x : Int) : ∀ t, tEnd t (l ++ [x]) = tEnd t l + dd x := by
  induction l with
  | nil => intro t; rfl
  | cons y l ih => intro t; simp [tEnd, ih]
theorem tEnd_bound (l : List Int) : ∀ t, t ≤ tEnd t l ∧ tEnd t l ≤ t + l.length := by
  induction l with
  | nil => intro t; simp [tEnd]
  | cons y l ih =>
    intro t
    have := ih (t + dd y)
    have := dd_bound y
    simp only [tEnd, List.length_cons]
    omega
def ris (l : List Int) : List Int := risL 1 (l.take 20)
theorem ris_length (l : List Int) : (ris l).length = min 20 l.length := by rw [ris, risL_length, List.length_take]
theorem rising_rest (l : List Int) (hl : l.length ≤ 9223372036854775807) (xs : List Int) (t : Int) : ∀ n i k, i + n = l.length → n < k → 20 ≤ i → calepinlaw20_rising.l0 k xs t l (l.length : Int) (i : Int) = some xs := by
  intro n
  induction n with
  | zero =>
    intro i k hi hk _
    obtain ⟨k, rfl⟩ : ∃ q, k = q + 1 := ⟨k - 1, by omega⟩
    unfold calepinlaw20_rising.l0
    rw [if_neg (by omega)]
  | succ n ih =>
    intro i k hi hk h20
    obtain ⟨k, rfl⟩ : ∃ q, k = q + 1 := ⟨k - 1, by omega⟩
    unfold calepinlaw20_rising.l0
    have hw : wrap64 ((i : Int) + 1) = ((i + 1 : Nat) : Int) := by unfold wrap64; omega
    rw [if_pos (by omega), if_pos (by omega), if_pos (by omega), if_neg (by omega), hw]
    exact ih (i + 1) k (by omega) (by omega) (by omega)
theorem rising_loop (l : List Int) (hl : l.length ≤ 9223372036854775807) : ∀ n i k, i + n = l.length → n < k → i ≤ 20 → calepinlaw20_rising.l0 k (risL 1 (l.take i)) (tEnd 1 (l.take i)) l (l.length : Int) (i : Int) = some (ris l) := by
  intro n
  induction n with
  | zero =>
    intro i k hi hk h20
    obtain ⟨k, rfl⟩ : ∃ q, k = q + 1 := ⟨k - 1, by omega⟩
    unfold calepinlaw20_rising.l0
    rw [if_neg (by omega)]
    unfold ris
    rw [List.take_of_length_le (by omega), List.take_of_length_le (by omega)]
  | succ n ih =>
    intro i k hi hk h20
    by_cases e : i < 20
    · obtain ⟨k, rfl⟩ : ∃ q, k = q + 1 := ⟨k - 1, by omega⟩
      have hlt : i < l.length := by omega
      unfold calepinlaw20_rising.l0
      have hw : wrap64 ((i : Int) + 1) = ((i + 1 : Nat) : Int) := by unfold wrap64; omega
      have hrd : rd l (i : Int) = l[i] := by simp [rd, rdOf, hlt]
      have hlen : (risL 1 (l.take i)).length = i := by rw [risL_length, List.length_take]; omega
      have hb := tEnd_bound (l.take i) 1
      have hd := dd_bound l[i]
      have hle : (l.take i).length ≤ 20 := by rw [List.length_take]; omega
      have hs : wrap64 (tEnd 1 (l.take i) + dd l[i]) = tEnd 1 (l.take (i + 1)) := by
        rw [List.take_succ_eq_append_getElem hlt, tEnd_snoc]
        unfold wrap64
        omega
      rw [if_pos (by omega), if_pos (by omega), if_pos (by omega), if_pos (by omega), hw, hrd, if_pos (by omega)]
      show calepinlaw20_rising.l0 k (risL 1 (l.take i) ++ [wrap64 (tEnd 1 (l.take i) + dd l[i])]) (wrap64 (tEnd 1 (l.take i) + dd l[i])) l _ _ = _
      rw [hs]
      have := ih (i + 1) k (by omega) (by omega) (by omega)
      have hr : risL 1 (l.take (i + 1)) = risL 1 (l.take i) ++ [tEnd 1 (l.take (i + 1))] := by
        rw [List.take_succ_eq_append_getElem hlt]
        exact risL_snoc _ _ _
      rw [hr] at this
      exact this
    · have h : i = 20 := by omega
      subst h
      exact rising_rest l hl _ _ (n + 1) 20 k hi hk (Nat.le_refl _)
theorem rising_is (l : List Int) (hl : l.length ≤ 9223372036854775807) : calepinlaw20_rising.f (l.length + 1) l = some (ris l) := by
  have := rising_loop l hl l.length 0 (l.length + 1) (by omega) (by omega) (by omega)
  simpa [calepinlaw20_rising.f, risL, tEnd] using this
end Go.Proofs.Ytigjfnleinhahaa.PLog
