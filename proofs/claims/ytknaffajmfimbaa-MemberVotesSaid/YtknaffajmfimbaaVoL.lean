/- MemberVotes in plain lists. -/
import Derived.Test.YtknaffajmfimbaaPlace
namespace Go.Proofs.Ytknaffajmfimbaa.PHe
open Go.RowKit Go.Proofs.YtknaffajmfimbaaW.PrintWords Go.Proofs.YtknaffajmfimbaaW.PrintLast Go.Proofs.YtknaffajmfimbaaW.PrintMore
open Go.Proofs Go.Proofs.Ytknaffajmfimbaa
set_option linter.unusedVariables false
set_option linter.unusedSimpArgs false
set_option maxHeartbeats 4000000
set_option maxRecDepth 100000

def cnt (L : List Int) (p : Int) : Nat := (L.filter (fun q => decide (p ≤ q))).length
def stepR (L : List Int) (s : Int × Bool) (p : Int) : Int × Bool := if 2 * cnt L p > L.length then (if s.2 = true then (if p > s.1 then (p, true) else s) else (p, true)) else s
def placeR (L : List Int) : Int := (L.foldl (stepR L) (0, false)).1
theorem rdat (L : List Int) (i : Nat) (h : i < L.length) : rd L (i : Int) = L[i] := by
  rw [rd_at]; unfold at_; rw [List.getElem?_eq_getElem h]; rfl
theorem l1_is (L : List Int) (hL : L.length ≤ 1000000) (x3 : Int) (x4 : Bool) (p : Int) (i : Nat) (hi : i < L.length) (r : Option Int) (k0 : Nat)
    (hr : ∀ k, k0 ≤ k → PG.calepinref21_Place.l0 k L (stepR L (x3, x4) p).1 (stepR L (x3, x4) p).2 L (L.length : Int) ((i + 1 : Nat) : Int) = r) :
    ∀ (n j c k : Nat), j + n = L.length → n + k0 < k → c + ((L.drop j).filter (fun q => decide (p ≤ q))).length = cnt L p → PG.calepinref21_Place.l1 k L x3 x4 p (c : Int) L (L.length : Int) (i : Int) L (L.length : Int) (j : Int) = r
  | 0, j, c, 0, _, hk, _ => by omega
  | n + 1, j, c, 0, _, hk, _ => by omega
  | 0, j, c, k + 1, hj, hk, hc => by
    have hc0 : c = cnt L p := by rw [List.drop_of_length_le (by omega)] at hc; simpa using hc
    have hcl : c ≤ L.length := by rw [hc0]; exact List.length_filter_le _ _
    have w1 : wrap64 (2 * (c : Int)) = ((2 * c : Nat) : Int) := by unfold wrap64; omega
    have w2 : wrap64 ((i : Int) + 1) = ((i + 1 : Nat) : Int) := by unfold wrap64; omega
    unfold PG.calepinref21_Place.l1
    rw [if_neg (by omega), w1, w2]
    have h := hr k (by omega)
    unfold stepR at h
    rw [← hc0] at h
    by_cases c1 : 2 * c > L.length
    · rw [if_pos (by omega)]
      rw [if_pos c1] at h
      cases x4 with
      | false =>
        rw [if_neg (by decide)]
        rw [if_neg (show ¬ (x3, false).2 = true from Bool.false_ne_true)] at h
        exact h
      | true =>
        rw [if_pos rfl]
        rw [if_pos rfl] at h
        by_cases c2 : p > x3
        · rw [if_pos c2]
          rw [if_pos c2] at h
          exact h
        · rw [if_neg c2]
          rw [if_neg c2] at h
          exact h
    · rw [if_neg (by omega)]
      rw [if_neg c1] at h
      exact h
  | n + 1, j, c, k + 1, hj, hk, hc => by
    have hlt : j < L.length := by omega
    have hcl : c ≤ L.length := by
      have : cnt L p ≤ L.length := List.length_filter_le _ _
      omega
    unfold PG.calepinref21_Place.l1
    rw [if_pos (by omega), if_pos (by omega), if_pos (by omega), rdat L j hlt]
    have w2 : wrap64 ((j : Int) + 1) = ((j + 1 : Nat) : Int) := by unfold wrap64; omega
    have w1 : wrap64 ((c : Int) + 1) = ((c + 1 : Nat) : Int) := by unfold wrap64; omega
    rw [w1, w2]
    rw [List.drop_eq_getElem_cons hlt, List.filter_cons] at hc
    by_cases c1 : L[j] ≥ p
    · rw [if_pos c1]
      rw [if_pos (by simpa using c1), List.length_cons] at hc
      exact l1_is L hL x3 x4 p i hi r k0 hr n (j + 1) (c + 1) k (by omega) (by omega) (by omega)
    · rw [if_neg c1]
      rw [if_neg (by simpa using c1)] at hc
      exact l1_is L hL x3 x4 p i hi r k0 hr n (j + 1) c k (by omega) (by omega) hc
theorem l0_is (L : List Int) (hL : L.length ≤ 1000000) : ∀ (n i : Nat) (s : Int × Bool) (k : Nat), i + n = L.length → n * (L.length + 2) + 1 < k → PG.calepinref21_Place.l0 k L s.1 s.2 L (L.length : Int) (i : Int) = some (((L.drop i).foldl (stepR L) s).1)
  | _, _, _, 0, _, hk => by omega
  | 0, i, s, k + 1, h, hk => by
    unfold PG.calepinref21_Place.l0
    rw [if_neg (by omega), List.drop_of_length_le (by omega)]; rfl
  | n + 1, i, s, k + 1, h, hk => by
    have hlt : i < L.length := by omega
    unfold PG.calepinref21_Place.l0
    rw [if_pos (by omega), if_pos (by omega), if_pos (by omega), rdat L i hlt, List.drop_eq_getElem_cons hlt, List.foldl_cons]
    rw [Nat.succ_mul] at hk
    exact l1_is L hL s.1 s.2 L[i] i hlt _ (n * (L.length + 2) + 2) (fun k' hk' => l0_is L hL n (i + 1) _ k' (by omega) (by omega)) L.length 0 0 k (by omega) (by omega) (by simp [cnt])
theorem refPlace_is (L : List Int) (hL : L.length ≤ 1000000) (k : Nat) (hk : L.length * (L.length + 2) + 1 < k) : PG.calepinref21_Place.f k L = some (placeR L) :=
  l0_is L hL L.length 0 (0, false) k (by omega) hk
theorem fold_is (L : List Int) : ∀ (M : List Int) (s : Int × Bool) (D : List Int), (s.2 = true → s.1 ∈ D ∧ 2 * cnt L s.1 > L.length ∧ ∀ p ∈ D, 2 * cnt L p > L.length → p ≤ s.1) → (s.2 = false → ∀ p ∈ D, ¬ 2 * cnt L p > L.length) →
    (((M.foldl (stepR L) s).2 = true → (M.foldl (stepR L) s).1 ∈ D ++ M ∧ 2 * cnt L (M.foldl (stepR L) s).1 > L.length ∧ ∀ p ∈ D ++ M, 2 * cnt L p > L.length → p ≤ (M.foldl (stepR L) s).1) ∧ ((M.foldl (stepR L) s).2 = false → ∀ p ∈ D ++ M, ¬ 2 * cnt L p > L.length))
  | [], s, D, h1, h2 => by rw [List.append_nil]; exact ⟨h1, h2⟩
  | x :: M, s, D, h1, h2 => by
    have e : D ++ x :: M = (D ++ [x]) ++ M := by simp
    rw [List.foldl_cons, e]
    refine fold_is L M (stepR L s x) (D ++ [x]) ?_ ?_
    · intro h
      unfold stepR at h ⊢
      by_cases c1 : 2 * cnt L x > L.length
      · rw [if_pos c1] at h ⊢
        by_cases c2 : s.2 = true
        · obtain ⟨a1, a2, a3⟩ := h1 c2
          rw [if_pos c2] at h ⊢
          by_cases c3 : x > s.1
          · rw [if_pos c3] at h ⊢
            refine ⟨by simp, c1, fun p hp hc => ?_⟩
            rcases List.mem_append.1 hp with hp | hp
            · have := a3 p hp hc
              show p ≤ x
              omega
            · have : p = x := by simpa using hp
              subst this; exact Int.le_refl _
          · rw [if_neg c3] at h ⊢
            refine ⟨List.mem_append_left _ a1, a2, fun p hp hc => ?_⟩
            rcases List.mem_append.1 hp with hp | hp
            · exact a3 p hp hc
            · have : p = x := by simpa using hp
              subst this; omega
        · rw [if_neg c2] at h ⊢
          refine ⟨by simp, c1, fun p hp hc => ?_⟩
          rcases List.mem_append.1 hp with hp | hp
          · exact absurd hc (h2 (by simpa using c2) p hp)
          · have : p = x := by simpa using hp
            subst this; exact Int.le_refl _
      · rw [if_neg c1] at h ⊢
        obtain ⟨a1, a2, a3⟩ := h1 h
        refine ⟨List.mem_append_left _ a1, a2, fun p hp hc => ?_⟩
        rcases List.mem_append.1 hp with hp | hp
        · exact a3 p hp hc
        · have : p = x := by simpa using hp
          subst this; exact absurd hc c1
    · intro h p hp hc
      unfold stepR at h
      by_cases c1 : 2 * cnt L x > L.length
      · rw [if_pos c1] at h
        by_cases c2 : s.2 = true
        · rw [if_pos c2] at h
          by_cases c3 : x > s.1
          · rw [if_pos c3] at h; cases h
          · rw [if_neg c3, c2] at h; cases h
        · rw [if_neg c2] at h; cases h
      · rw [if_neg c1] at h
        rcases List.mem_append.1 hp with hp | hp
        · exact h2 h p hp hc
        · have : p = x := by simpa using hp
          subst this; exact c1 hc
theorem placeR_is (L : List Int) (hL : 0 < L.length) : placeR L = placeB L := by
  obtain ⟨⟨m1, m2⟩, m3⟩ := place_is L hL
  obtain ⟨f1, f2⟩ := fold_is L L (0, false) [] (fun h => by cases h) (fun _ p hp => by cases hp)
  rw [List.nil_append] at f1 f2
  unfold placeR
  cases hb : (L.foldl (stepR L) (0, false)).2 with
  | false => exact absurd m2 (f2 hb _ m1)
  | true =>
    obtain ⟨a1, a2, a3⟩ := f1 hb
    have h1 := m3 _ a1 a2
    have h2 := a3 _ m1 m2
    omega
theorem placeR_nil : placeR [] = 0 := rfl
/-- What member.Place answers is the document's answer. -/
theorem placeV_is (l A : List Int) : placeV l A = if l.all inR = true then placeR (l.map (fun x => at_ A x.toNat)) else 0 := by
  unfold placeV
  by_cases h : l.all inR = true
  · rw [if_pos h, if_pos h]
    by_cases h0 : l.length = 0
    · rw [if_pos h0, List.length_eq_zero_iff.1 h0]; rfl
    · rw [if_neg h0, placeR_is _ (by rw [List.length_map]; omega)]
  · rw [if_neg h, if_neg h]
theorem agreed_two (l y : List Int) : PMe.agreedB l y = decide (2 * (l.filter (fun x => y.contains x)).length > l.length) := by
  unfold PMe.agreedB
  have := List.length_filter_le (fun x => y.contains x) l
  by_cases h : 2 * (l.filter (fun x => y.contains x)).length > l.length
  · rw [decide_eq_true h, decide_eq_true (by omega), decide_eq_true (by omega)]; rfl
  · rw [decide_eq_false h]
    by_cases h2 : 0 < l.length
    · rw [decide_eq_false (show ¬ l.length / 2 + 1 ≤ _ by omega), Bool.and_false]
    · rw [decide_eq_false h2, Bool.false_and]

end Go.Proofs.Ytknaffajmfimbaa.PHe
