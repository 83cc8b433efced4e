/- container/heap in plain lists. -/
import Derived.Test.YtknaffajmfimbaaPlL
namespace Go.Proofs.Ytknaffajmfimbaa.PHe
open Go.RowKit Go.Proofs.YtknaffajmfimbaaW.PrintWords Go.Proofs.YtknaffajmfimbaaW.PrintLast Go.Proofs.YtknaffajmfimbaaW.PrintMore
open Go.Proofs.Ytknaffajmfimbaa Go.Proofs.Ytknaffajmfimbaa.PL
set_option linter.unusedVariables false
set_option linter.unusedSimpArgs false
set_option maxHeartbeats 4000000
set_option maxRecDepth 100000

/-- The element at a place. -/
def at_ (l : List Int) (i : Nat) : Int := l[i]?.getD 0
def swap_ (l : List Int) (i j : Nat) : List Int := (l.set i (at_ l j)).set j (at_ l i)
theorem swap_length (l : List Int) (i j : Nat) : (swap_ l i j).length = l.length := by unfold swap_; rw [List.length_set, List.length_set]
theorem at_swap {l : List Int} {i j : Nat} (hi : i < l.length) (hj : j < l.length) (k : Nat) : at_ (swap_ l i j) k = if k = j then at_ l i else if k = i then at_ l j else at_ l k := by
  unfold swap_ at_
  rw [List.getElem?_set]
  by_cases h1 : j = k
  · rw [if_pos h1, if_pos (by rw [List.length_set]; omega), if_pos h1.symm]; rfl
  · rw [if_neg h1, if_neg (fun e => h1 e.symm), List.getElem?_set]
    by_cases h2 : i = k
    · rw [if_pos h2, if_pos (by omega), if_pos h2.symm]; rfl
    · rw [if_neg h2, if_neg (fun e => h2 e.symm)]
theorem swap_perm {l : List Int} {i j : Nat} (hi : i < l.length) (hj : j < l.length) : (swap_ l i j).Perm l := by
  have e1 : at_ l i = l[i] := by unfold at_; rw [List.getElem?_eq_getElem hi]; rfl
  have e2 : at_ l j = l[j] := by unfold at_; rw [List.getElem?_eq_getElem hj]; rfl
  unfold swap_
  rw [e1, e2]
  exact List.set_set_perm hi hj
/-- heap.down. -/
def down_ : Nat → List Int → Nat → Nat → List Int
  | 0, l, _, _ => l
  | f + 1, l, i, n =>
    if 2 * i + 1 < n then
      if at_ l (if 2 * i + 2 < n ∧ at_ l (2 * i + 2) > at_ l (2 * i + 1) then 2 * i + 2 else 2 * i + 1) > at_ l i then
        down_ f (swap_ l i (if 2 * i + 2 < n ∧ at_ l (2 * i + 2) > at_ l (2 * i + 1) then 2 * i + 2 else 2 * i + 1)) (if 2 * i + 2 < n ∧ at_ l (2 * i + 2) > at_ l (2 * i + 1) then 2 * i + 2 else 2 * i + 1) n
      else l
    else l
/-- A heap from its parents at i0 on. -/
def Hp (l : List Int) (n i0 : Nat) : Prop := ∀ k, 1 ≤ k → k < n → i0 ≤ (k - 1) / 2 → at_ l k ≤ at_ l ((k - 1) / 2)
theorem down_is : ∀ (f : Nat) (l : List Int) (i i0 n : Nat), n ≤ l.length → n ≤ f + i → i0 ≤ i →
    (∀ k, 1 ≤ k → k < n → i0 ≤ (k - 1) / 2 → (k - 1) / 2 ≠ i → at_ l k ≤ at_ l ((k - 1) / 2)) →
    (i0 < i → 1 ≤ i → i0 ≤ (i - 1) / 2 → ∀ k, 1 ≤ k → k < n → (k - 1) / 2 = i → at_ l k ≤ at_ l ((i - 1) / 2)) →
    Hp (down_ f l i n) n i0 ∧ (down_ f l i n).Perm l ∧ ∀ k, n ≤ k → at_ (down_ f l i n) k = at_ l k
  | 0, l, i, i0, n, hn, hf, hi, h1, h2 => by
    unfold down_
    exact ⟨fun k a b c => h1 k a b c (by omega), List.Perm.refl _, fun _ _ => rfl⟩
  | f + 1, l, i, i0, n, hn, hf, hi, h1, h2 => by
    unfold down_
    by_cases c1 : 2 * i + 1 < n
    · rw [if_pos c1]
      generalize hj : (if 2 * i + 2 < n ∧ at_ l (2 * i + 2) > at_ l (2 * i + 1) then 2 * i + 2 else 2 * i + 1) = j
      have hjc : j = 2 * i + 1 ∨ j = 2 * i + 2 := by rw [← hj]; split <;> omega
      have hjn : j < n := by rw [← hj]; split <;> omega
      have hmax : ∀ k, 1 ≤ k → k < n → (k - 1) / 2 = i → at_ l k ≤ at_ l j := by
        intro k ka kb kc
        have hk : k = 2 * i + 1 ∨ k = 2 * i + 2 := by omega
        rw [← hj]
        split
        · rename_i hh
          rcases hk with rfl | rfl <;> omega
        · rename_i hh
          rcases hk with rfl | rfl
          · omega
          · have := Decidable.not_and_iff_or_not.1 hh
            rcases this with h | h <;> omega
      by_cases c2 : at_ l j > at_ l i
      · rw [if_pos c2]
        have hil : i < l.length := by omega
        have hjl : j < l.length := by omega
        have hA := at_swap hil hjl
        obtain ⟨r1, r2, r3⟩ := down_is f (swap_ l i j) j i0 n (by rw [swap_length]; exact hn) (by omega) (by omega) (by
          intro k ka kb kc kd
          rw [hA, hA]
          by_cases e1 : k = j
          · have e2 : (k - 1) / 2 = i := by omega
            rw [if_pos e1, e2, if_neg (by omega), if_pos rfl]
            omega
          · rw [if_neg e1, if_neg kd]
            by_cases e2 : k = i
            · rw [if_pos e2, if_neg (by omega)]
              subst e2
              exact h2 (by omega) ka kc j (by omega) hjn (by omega)
            · rw [if_neg e2]
              by_cases e3 : (k - 1) / 2 = i
              · rw [if_pos e3]
                exact hmax k ka kb e3
              · rw [if_neg e3]
                exact h1 k ka kb kc e3) (by
          intro _ _ _ k ka kb kc
          have e0 : (j - 1) / 2 = i := by omega
          rw [hA, hA, e0, if_neg (by omega), if_neg (by omega), if_neg (by omega), if_pos rfl]
          have := h1 k ka kb (by omega) (by omega)
          rw [kc] at this
          exact this)
        refine ⟨r1, r2.trans (swap_perm hil hjl), fun k hk => ?_⟩
        rw [r3 k hk, hA, if_neg (by omega), if_neg (by omega)]
      · rw [if_neg c2]
        refine ⟨fun k a b c => ?_, List.Perm.refl _, fun _ _ => rfl⟩
        by_cases e : (k - 1) / 2 = i
        · have := hmax k a b e
          rw [e]; omega
        · exact h1 k a b c e
    · rw [if_neg c1]
      exact ⟨fun k a b c => h1 k a b c (by omega), List.Perm.refl _, fun _ _ => rfl⟩
theorem down_at (l : List Int) (i n : Nat) (hn : n ≤ l.length) (h : Hp l n (i + 1)) (f : Nat) (hf : n ≤ f + i) : Hp (down_ f l i n) n i ∧ (down_ f l i n).Perm l ∧ ∀ k, n ≤ k → at_ (down_ f l i n) k = at_ l k :=
  down_is f l i i n hn hf (Nat.le_refl _) (fun k a b c d => h k a b (by omega)) (fun h => absurd h (Nat.lt_irrefl _))
/-- heap.Init, behind so many rounds. -/
def init_ : Nat → List Int → List Int
  | 0, l => l
  | i + 1, l => init_ i (down_ l.length l i l.length)
theorem init_is : ∀ (i : Nat) (l : List Int), Hp l l.length i → Hp (init_ i l) l.length 0 ∧ (init_ i l).Perm l
  | 0, l, h => ⟨h, List.Perm.refl _⟩
  | i + 1, l, h => by
    obtain ⟨r1, r2, _⟩ := down_at l i l.length (Nat.le_refl _) h l.length (by omega)
    have hl : (down_ l.length l i l.length).length = l.length := r2.length_eq
    obtain ⟨s1, s2⟩ := init_is i (down_ l.length l i l.length) (by rw [hl]; exact r1)
    rw [hl] at s1
    exact ⟨s1, s2.trans r2⟩
theorem init_whole (l : List Int) : Hp (init_ (l.length / 2) l) l.length 0 ∧ (init_ (l.length / 2) l).Perm l :=
  init_is _ l (fun k a b c => by omega)
theorem top_is {l : List Int} {n : Nat} (h : Hp l n 0) : ∀ k, k < n → at_ l k ≤ at_ l 0 := by
  intro k
  induction k using Nat.strongRecOn with
  | _ k ih =>
    intro hk
    rcases Nat.eq_zero_or_pos k with rfl | hp
    · exact Int.le_refl _
    · exact Int.le_trans (h k hp hk (Nat.zero_le _)) (ih _ (by omega) (by omega))
/-- heap.Pop: what is left, and what came. -/
def pop_ (l : List Int) : List Int × Int := (let r := down_ l.length (swap_ l 0 (l.length - 1)) 0 (l.length - 1); (r.take (l.length - 1), at_ r (l.length - 1)))
theorem at_mem {l : List Int} {k : Nat} (h : k < l.length) : at_ l k ∈ l := by
  unfold at_; rw [List.getElem?_eq_getElem h]; exact List.getElem_mem h
theorem mem_at {l : List Int} {x : Int} (h : x ∈ l) : ∃ k, k < l.length ∧ at_ l k = x := by
  obtain ⟨k, hk, rfl⟩ := List.getElem_of_mem h
  exact ⟨k, hk, by unfold at_; rw [List.getElem?_eq_getElem hk]; rfl⟩
theorem pop_is (l : List Int) (hl : 0 < l.length) (h : Hp l l.length 0) : Hp (pop_ l).1 (pop_ l).1.length 0 ∧ l.Perm ((pop_ l).2 :: (pop_ l).1) ∧ (pop_ l).1.length = l.length - 1 ∧ (∀ x ∈ (pop_ l).1, x ≤ (pop_ l).2) ∧ (pop_ l).2 = at_ l 0 := by
  have hA := at_swap (l := l) (i := 0) (j := l.length - 1) hl (by omega)
  obtain ⟨r1, r2, r3⟩ := down_at (swap_ l 0 (l.length - 1)) 0 (l.length - 1) (by rw [swap_length]; omega) (by
    intro k a b c
    rw [hA, hA, if_neg (by omega), if_neg (by omega), if_neg (by omega), if_neg (by omega)]
    exact h k a (by omega) (Nat.zero_le _)) l.length (by omega)
  have hlen : (down_ l.length (swap_ l 0 (l.length - 1)) 0 (l.length - 1)).length = l.length := by rw [r2.length_eq, swap_length]
  have htop := top_is h
  have hx : at_ (down_ l.length (swap_ l 0 (l.length - 1)) 0 (l.length - 1)) (l.length - 1) = at_ l 0 := by rw [r3 _ (Nat.le_refl _), hA, if_pos rfl]
  have htk : (pop_ l).1.length = l.length - 1 := by show (List.take _ _).length = _; rw [List.length_take, hlen]; omega
  have hp : l.Perm ((pop_ l).2 :: (pop_ l).1) := by
    refine (swap_perm hl (show l.length - 1 < l.length by omega)).symm.trans (r2.symm.trans ?_)
    show (down_ l.length (swap_ l 0 (l.length - 1)) 0 (l.length - 1)).Perm (at_ (down_ l.length (swap_ l 0 (l.length - 1)) 0 (l.length - 1)) (l.length - 1) :: (down_ l.length (swap_ l 0 (l.length - 1)) 0 (l.length - 1)).take (l.length - 1))
    generalize down_ l.length (swap_ l 0 (l.length - 1)) 0 (l.length - 1) = q at hlen ⊢
    have e : q = q.take (l.length - 1) ++ [at_ q (l.length - 1)] := by
      have h0 : l.length - 1 < q.length := by omega
      have h1 : at_ q (l.length - 1) = q[l.length - 1] := by unfold at_; rw [List.getElem?_eq_getElem h0]; rfl
      rw [h1, ← List.take_succ_eq_append_getElem h0, List.take_of_length_le (by omega)]
    refine List.Perm.trans (List.Perm.of_eq e) ?_
    exact List.perm_append_singleton _ _
  refine ⟨?_, hp, htk, ?_, hx⟩
  · rw [htk]
    intro k a b c
    have e : ∀ q : Nat, q < l.length - 1 → at_ (pop_ l).1 q = at_ (down_ l.length (swap_ l 0 (l.length - 1)) 0 (l.length - 1)) q := by
      intro q hq
      show at_ (List.take _ _) q = _
      unfold at_
      rw [List.getElem?_take_of_lt hq]
    rw [e k b, e _ (by omega)]
    exact r1 k a b c
  · intro x hx'
    have hm : x ∈ l := hp.mem_iff.2 (List.mem_cons_of_mem _ hx')
    obtain ⟨k, hk, rfl⟩ := mem_at hm
    have := htop k hk
    show _ ≤ at_ (down_ l.length (swap_ l 0 (l.length - 1)) 0 (l.length - 1)) (l.length - 1)
    rw [hx]
    exact this
/-- So many pops: what is left, and what came last. -/
def pops_ : Nat → List Int → Int → List Int × Int
  | 0, l, p => (l, p)
  | k + 1, l, _ => pops_ k (pop_ l).1 (pop_ l).2
theorem pops_is (L : List Int) : ∀ (k : Nat) (R : List Int) (p : Int) (xs : List Int), k ≤ R.length → Hp R R.length 0 → L.Perm (xs ++ R) → (∀ x ∈ xs, p ≤ x) → (xs ≠ [] → p ∈ xs) → (xs ≠ [] → ∀ r ∈ R, r ≤ p) →
    ∃ ys Q, L.Perm (ys ++ Q) ∧ ys.length = xs.length + k ∧ (∀ x ∈ ys, (pops_ k R p).2 ≤ x) ∧ (ys ≠ [] → (pops_ k R p).2 ∈ ys) ∧ (ys ≠ [] → ∀ r ∈ Q, r ≤ (pops_ k R p).2)
  | 0, R, p, xs, _, _, hp, h1, h2, h3 => ⟨xs, R, hp, rfl, h1, h2, h3⟩
  | k + 1, R, p, xs, hk, hh, hp, h1, h2, h3 => by
    obtain ⟨a1, a2, a3, a4, a5⟩ := pop_is R (by omega) hh
    have hxR : (pop_ R).2 ∈ R := a2.mem_iff.2 List.mem_cons_self
    obtain ⟨ys, Q, b1, b2, b3⟩ := pops_is L k (pop_ R).1 (pop_ R).2 ((pop_ R).2 :: xs) (by omega) a1 (by
      refine hp.trans ((List.Perm.append_left xs a2).trans ?_)
      exact List.perm_middle) (by
      intro x hx
      rcases List.mem_cons.1 hx with rfl | hx
      · exact Int.le_refl _
      · have hne : xs ≠ [] := fun e => by rw [e] at hx; cases hx
        exact Int.le_trans (h3 hne _ hxR) (h1 x hx)) (fun _ => List.mem_cons_self) (fun _ r hr => a4 r hr)
    exact ⟨ys, Q, b1, by rw [b2, List.length_cons]; omega, b3⟩
/-- What member.Place answers of its places. -/
def placeB (L : List Int) : Int := (pops_ (L.length / 2 + 1) (init_ (L.length / 2) L) 0).2
theorem place_is (L : List Int) (hL : 0 < L.length) :
    (placeB L ∈ L ∧ 2 * (L.filter (fun q => decide (placeB L ≤ q))).length > L.length) ∧ ∀ p ∈ L, 2 * (L.filter (fun q => decide (p ≤ q))).length > L.length → p ≤ placeB L := by
  obtain ⟨i1, i2⟩ := init_whole L
  have hlen := i2.length_eq
  obtain ⟨ys, Q, b1, b2, b3, b4, b5⟩ := pops_is L (L.length / 2 + 1) (init_ (L.length / 2) L) 0 [] (by omega) (by rw [hlen]; exact i1) (by simpa using i2.symm) (by simp) (by simp) (by simp)
  have hyl : ys.length = L.length / 2 + 1 := by simpa using b2
  have hne : ys ≠ [] := fun e => by rw [e] at hyl; simp at hyl
  show (placeB L ∈ L ∧ _) ∧ _
  have hPm : placeB L ∈ ys := b4 hne
  have c3 : ∀ x ∈ ys, placeB L ≤ x := b3
  have c5 : ∀ r ∈ Q, r ≤ placeB L := b5 hne
  generalize placeB L = P at hPm c3 c5 ⊢
  refine ⟨⟨b1.mem_iff.2 (List.mem_append_left _ hPm), ?_⟩, fun p hp hc => ?_⟩
  · have e : (L.filter (fun q => decide (P ≤ q))).length = ((ys ++ Q).filter (fun q => decide (P ≤ q))).length := (b1.filter _).length_eq
    rw [e, List.filter_append, List.length_append, List.filter_eq_self.2 (fun x hx => decide_eq_true (c3 x hx))]
    omega
  · rcases Int.lt_or_le P p with h | h
    · exfalso
      have e : (L.filter (fun q => decide (p ≤ q))).length = ((ys ++ Q).filter (fun q => decide (p ≤ q))).length := (b1.filter _).length_eq
      have eQ : Q.filter (fun q => decide (p ≤ q)) = [] := by
        rw [List.filter_eq_nil_iff]
        intro r hr
        have := c5 r hr
        simp; omega
      have eY : (ys.filter (fun q => decide (p ≤ q))).length < ys.length := by
        have := List.length_filter_le (fun q => decide (p ≤ q)) ys
        rcases Nat.lt_or_ge (ys.filter (fun q => decide (p ≤ q))).length ys.length with h' | h'
        · exact h'
        · have := (List.length_filter_eq_length_iff.1 (by omega : (ys.filter (fun q => decide (p ≤ q))).length = ys.length)) P hPm
          simp at this; omega
      rw [e, List.filter_append, eQ, List.append_nil] at hc
      omega
    · exact h

end Go.Proofs.Ytknaffajmfimbaa.PHe
