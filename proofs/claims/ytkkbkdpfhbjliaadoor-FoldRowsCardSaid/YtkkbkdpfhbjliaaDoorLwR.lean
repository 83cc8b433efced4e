/- The plain law of FoldRows. -/
import Derived.Test.YtkkbkdpfhbjliaaDoorLwA
namespace Go.Proofs.YtkkbkdpfhbjliaaDoor.PL
open Go.RowKit Go.Proofs.YtkkbkdpfhbjliaaDoorW.PrintWords Go.Proofs.YtkkbkdpfhbjliaaDoorW.PrintLast Go.Proofs.YtkkbkdpfhbjliaaDoorW.PrintMore
set_option linter.unusedVariables false
set_option linter.unusedSimpArgs false
set_option maxHeartbeats 4000000
set_option maxRecDepth 100000

open Go.Proofs Go.Lib Go.Proofs.YtkkbkdpfhbjliaaDoor.PF
/-- A character's size hangs on its bytes alone, where a byte 13 follows what belongs to it. -/
theorem sz_cut (m p q z : List UInt8) (hm : m = p ++ q) (h : sz m ≤ p.length) : sz (p ++ 13 :: z) = sz m := by
  have h1 := sz_pos m
  by_cases h2 : 2 ≤ sz m
  · have hs := (sz_same m (m.take (sz m)) (m.drop (sz m)) (List.take_append_drop _ _).symm (by rw [List.length_take]; have := congrArg List.length hm; rw [List.length_append] at this; omega) h2).2 (p.drop (sz m) ++ 13 :: z)
    rw [← hs]
    congr 1
    rw [hm, List.take_append_of_le_length (by rw [← hm]; exact h), ← List.append_assoc, List.take_append_drop]
  · have e1 : sz m = 1 := by omega
    rw [e1]
    have g1 := sz_pos (p ++ 13 :: z)
    by_cases g2 : 2 ≤ sz (p ++ 13 :: z)
    · exfalso
      have gl := sz_le (p ++ 13 :: z) (by simp)
      have gs := sz_same (p ++ 13 :: z) ((p ++ 13 :: z).take (sz (p ++ 13 :: z))) ((p ++ 13 :: z).drop (sz (p ++ 13 :: z))) (List.take_append_drop _ _).symm (by rw [List.length_take]; omega) g2
      have hle : sz (p ++ 13 :: z) ≤ p.length := by
        refine Decidable.byContradiction fun hn => ?_
        have : (13 : UInt8) ∈ (p ++ 13 :: z).take (sz (p ++ 13 :: z)) := by
          rw [List.mem_take_iff_getElem]
          exact ⟨p.length, by simp; omega, by simp⟩
        have := gs.1 13 this
        exact absurd this (by decide)
      have g3 := gs.2 (p.drop (sz (p ++ 13 :: z)) ++ q)
      rw [List.take_append_of_le_length hle, ← List.append_assoc, List.take_append_drop, ← hm] at g3
      omega
    · omega
theorem pc_max (most : Nat) : ∀ (f : Nat) (l : List UInt8) (n : Nat), l.length ≤ f → 0 < n → n ≤ most → ∃ j, pc most f l n = n + j ∧ n + j ≤ most ∧ j ≤ l.length ∧ (l.drop j ≠ [] → most < n + j + sz (l.drop j))
  | 0, l, n, hf, h0, hm => by
    have : l = [] := List.eq_nil_of_length_eq_zero (by omega)
    subst this
    exact ⟨0, rfl, hm, Nat.le_refl _, fun h => absurd rfl h⟩
  | f + 1, l, n, hf, h0, hm => by
    unfold pc
    by_cases hl : l = []
    · subst hl
      rw [if_pos rfl]
      exact ⟨0, rfl, hm, Nat.le_refl _, fun h => absurd rfl h⟩
    · rw [if_neg hl]
      by_cases c : most < n + sz l
      · rw [if_pos ⟨h0, c⟩]
        exact ⟨0, rfl, hm, Nat.zero_le _, fun _ => by rw [List.drop_zero]; omega⟩
      · rw [if_neg (by omega)]
        have h1 := sz_pos l
        have h3 := sz_le l hl
        obtain ⟨j, e1, e2, e3, e4⟩ := pc_max most f (l.drop (sz l)) (n + sz l) (by rw [List.length_drop]; omega) (by omega) (by omega)
        rw [List.length_drop] at e3
        refine ⟨sz l + j, by rw [e1]; omega, by omega, by omega, fun h => ?_⟩
        rw [← List.drop_drop] at h ⊢
        have := e4 h
        omega
theorem piece_max (most : Nat) (h4 : 4 ≤ most) (l : List UInt8) (hl : l ≠ []) : piece most l ≤ most ∧ sz l ≤ piece most l ∧ (l.drop (piece most l) ≠ [] → most < piece most l + sz (l.drop (piece most l))) := by
  have h1 := sz_pos l
  have h5 := sz_le4 l
  have h3 := sz_le l hl
  obtain ⟨j, e1, e2, e3, e4⟩ := pc_max most l.length (l.drop (sz l)) (sz l) (by rw [List.length_drop]; omega) (by omega) (by omega)
  have hp : piece most l = sz l + j := by
    unfold piece
    rw [pc_step most _ l 0 hl (Nat.le_refl _), if_neg (by omega), Nat.zero_add, e1]
  rw [hp]
  refine ⟨e2, by omega, fun h => ?_⟩
  rw [← List.drop_drop] at h ⊢
  exact e4 h
theorem l0_step (x : ByteArray) (at_ : Int) (i : Nat) (k : Nat) (hx : x.size ≤ 1073741824) (hi : i + 1 < x.size) (h13 : x.data.toList.getD i 0 ≠ 13) :
    calepinlaw02_FoldRows.l0 (k + 2) x at_ (i : Int) = calepinlaw02_FoldRows.l0 k x at_ ((i + 1 : Nat) : Int) := by
  have w1 : wrap64 ((i : Int) + 1) = ((i + 1 : Nat) : Int) := by unfold wrap64; omega
  conv => lhs; unfold calepinlaw02_FoldRows.l0
  rw [w1, if_pos (by omega), if_pos (by omega), if_pos (by omega), bt_getD x i (by omega), if_neg (ne_nat 13 13 rfl (by decide) h13)]
  show calepinlaw02_FoldRows.l0 k x at_ (wrap64 ((i : Int) + 1)) = _
  rw [w1]
theorem scan_row (x : ByteArray) (hx : x.size ≤ 1073741824) (at_ : Int) : ∀ (n i k : Nat), i + n + 1 < x.size → (∀ j, i ≤ j → j < i + n → x.data.toList.getD j 0 ≠ 13) → calepinlaw02_FoldRows.l0 (2 * n + k) x at_ (i : Int) = calepinlaw02_FoldRows.l0 k x at_ ((i + n : Nat) : Int)
  | 0, i, k, hi, h => by rw [Nat.mul_zero, Nat.zero_add, Nat.add_zero]
  | n + 1, i, k, hi, h => by
    rw [show 2 * (n + 1) + k = (2 * n + k) + 2 by omega, l0_step x at_ i (2 * n + k) hx (by omega) (h i (Nat.le_refl _) (by omega)), scan_row x hx at_ n (i + 1) k (by omega) (fun j h1 h2 => h j (by omega) (by omega)), show i + 1 + n = i + (n + 1) by omega]
theorem ext_size (x : ByteArray) (a b : Nat) (hb : b ≤ x.size) : ((x.extract ((a : Nat) : Int).toNat ((b : Nat) : Int).toNat).size : Int) = ((b - a : Nat) : Int) := by
  rw [Int.toNat_natCast, Int.toNat_natCast, ByteArray.size_extract, Nat.min_eq_left hb]
theorem row_last (x : ByteArray) (hx : x.size ≤ 1073741824) (a i k : Nat) (hi : i + 2 = x.size) (b0 : Aside0 (bt x (i : Int) = 13)) (b1 : Aside0 (bt x ((i + 1 : Nat) : Int) = 10)) (ha : a ≤ i) (hr : i - a ≤ 75) :
    calepinlaw02_FoldRows.l0 (k + 3) x (a : Int) (i : Int) = some true := by
  have w1 := Aside0.mk (show wrap64 ((i : Int) + 1) = ((i + 1 : Nat) : Int) from by unfold wrap64; omega)
  have w2 := Aside0.mk (show wrap64 ((i : Int) + 2) = ((i + 2 : Nat) : Int) from by unfold wrap64; omega)
  have w3 := Aside0.mk (show wrap64 (((i + 1 : Nat) : Int) + 1) = ((i + 2 : Nat) : Int) from by unfold wrap64; omega)
  conv => lhs; unfold calepinlaw02_FoldRows.l0
  rw [w1.out, if_pos (by omega), if_pos (by omega), if_pos (by omega), b0.out, if_pos rfl, if_pos (by omega), b1.out]
  conv => lhs; unfold calepinlaw02_FoldRows.j2
  rw [if_neg (by decide), if_pos (by omega), if_pos (by omega), if_pos (by omega), ext_size x a i (by omega), if_neg (by omega), w2.out, if_neg (by omega), w1.out]
  conv => lhs; unfold calepinlaw02_FoldRows.l0
  rw [w3.out, if_neg (by omega)]
  exact congrArg some (beq_iff_eq.2 (by omega))
theorem row_next (x : ByteArray) (hx : x.size ≤ 1073741824) (a i k z : Nat) (hi : i + 3 ≤ x.size) (b0 : Aside0 (bt x (i : Int) = 13)) (b1 : Aside0 (bt x ((i + 1 : Nat) : Int) = 10)) (ha : a ≤ i) (hr : i - a ≤ 75) (hz : calepinref02_Size.f (x.extract (i + 3) x.size) = some (z : Int)) (hz4 : z ≤ 4) (hf : 75 < i - a + z) :
    calepinlaw02_FoldRows.l0 (k + 4) x (a : Int) (i : Int) = calepinlaw02_FoldRows.l0 k x ((i + 2 : Nat) : Int) ((i + 2 : Nat) : Int) := by
  have w1 := Aside0.mk (show wrap64 ((i : Int) + 1) = ((i + 1 : Nat) : Int) from by unfold wrap64; omega)
  have w2 := Aside0.mk (show wrap64 ((i : Int) + 2) = ((i + 2 : Nat) : Int) from by unfold wrap64; omega)
  have w3 := Aside0.mk (show wrap64 (((i + 2 : Nat) : Int) + 1) = ((i + 3 : Nat) : Int) from by unfold wrap64; omega)
  have w4 := Aside0.mk (show wrap64 (((i + 1 : Nat) : Int) + 1) = ((i + 2 : Nat) : Int) from by unfold wrap64; omega)
  have w5 := Aside0.mk (show wrap64 (((i - a : Nat) : Int) + (z : Int)) = ((i - a : Nat) : Int) + (z : Int) from by unfold wrap64; omega)
  conv => lhs; unfold calepinlaw02_FoldRows.l0
  rw [w1.out, if_pos (by omega), if_pos (by omega), if_pos (by omega), b0.out, if_pos rfl, if_pos (by omega), b1.out]
  conv => lhs; unfold calepinlaw02_FoldRows.j2
  rw [if_neg (by decide), if_pos (by omega), if_pos (by omega), if_pos (by omega), ext_size x a i (by omega), if_neg (by omega), w2.out, if_pos (by omega), w3.out, if_pos (by omega), if_pos (by omega), Int.toNat_natCast, hz, Option.bind_some, w5.out, if_neg (by omega), w1.out]
  conv => lhs; unfold calepinlaw02_FoldRows.l0
  rw [w4.out]
  by_cases he : i + 2 < x.size
  · rw [if_pos (by omega), if_pos (by omega), if_pos (by omega), b1.out, if_neg (by decide)]
    show calepinlaw02_FoldRows.l0 k x ((i + 2 : Nat) : Int) (wrap64 (((i + 1 : Nat) : Int) + 1)) = _
    rw [w4.out]
  · exact absurd he (by omega)
theorem getD_mid (A r t : List UInt8) (j : Nat) (c : UInt8) (h : t.getD j 0 = c) (i : Nat) (hi : i = A.length + r.length + j) : (A ++ (r ++ t)).getD i 0 = c := by
  subst hi
  rw [List.getD_eq_getElem?_getD, List.getElem?_append_right (by omega), List.getElem?_append_right (by omega), show A.length + r.length + j - A.length - r.length = j by omega, ← List.getD_eq_getElem?_getD, h]
theorem row_no (A r t : List UInt8) (h13 : 13 ∉ r) (j : Nat) (h1 : A.length ≤ j) (h2 : j < A.length + r.length) : (A ++ (r ++ t)).getD j 0 ≠ 13 := fun e => h13 (by
  have hlt : j - A.length < r.length := by omega
  rw [List.getD_eq_getElem?_getD, List.getElem?_append_right h1, List.getElem?_append_left hlt, List.getElem?_eq_getElem hlt] at e
  rw [← show r[j - A.length] = 13 from e]
  exact List.getElem_mem hlt)
theorem size_of (x : ByteArray) (l : List UInt8) (h : x.data.toList = l) : x.size = l.length := by rw [← h]; rfl
theorem len_a (A r t : List UInt8) : (A ++ (r ++ t)).length = A.length + r.length + t.length := by simp only [List.length_append]; omega
theorem ar5 {l n Q : Nat} (h1 : 1 ≤ Q) (h2 : l ≤ n + 1) : l - Q ≤ n := by omega
theorem ar6 {Q z : Nat} (h : 74 < Q + z) : 75 < Q + 1 + z := by omega
theorem rows_end (x : ByteArray) (hx : x.size ≤ 1073741824) (A r : List UInt8) (k : Nat) (hl : x.data.toList = A ++ (r ++ [13, 10])) (h13 : 13 ∉ r) (hr : r.length ≤ 75) (hk : 2 * x.size + 10 ≤ k + 2 * A.length) :
    calepinlaw02_FoldRows.l0 k x (A.length : Int) (A.length : Int) = some true := by
  have hlen : x.size = A.length + r.length + 2 := (size_of x _ hl).trans (len_a _ _ _)
  have b0 : x.data.toList.getD (A.length + r.length) 0 = 13 := by rw [hl]; exact getD_mid A r _ 0 13 rfl _ rfl
  have b1 : x.data.toList.getD (A.length + r.length + 1) 0 = 10 := by rw [hl]; exact getD_mid A r _ 1 10 rfl _ rfl
  have hno : ∀ j, A.length ≤ j → j < A.length + r.length → x.data.toList.getD j 0 ≠ 13 := fun j h1 h2 => by rw [hl]; exact row_no A r _ h13 j h1 h2
  clear hl h13
  generalize A.length = a at *
  generalize r.length = n at *
  obtain ⟨q, rfl⟩ : ∃ q, k = 2 * n + (q + 3) := ⟨k - 2 * n - 3, by omega⟩
  rw [scan_row x hx _ n a (q + 3) (by omega) hno]
  exact row_last x hx a (a + n) q (by omega) ⟨by rw [bt_getD x _ (by omega), b0]; rfl⟩ ⟨by rw [bt_getD x _ (by omega), b1]; rfl⟩ (by omega) (by omega)
theorem rows_step (x : ByteArray) (hx : x.size ≤ 1073741824) (A r t : List UInt8) (k z : Nat) (hl : x.data.toList = A ++ (r ++ t)) (h13 : 13 ∉ r) (hr : r.length ≤ 75) (hlen : x.size = A.length + r.length + t.length) (ht : 4 ≤ t.length) (hz : calepinref02_Size.f (x.extract (A.length + r.length + 3) x.size) = some (z : Int)) (hz4 : z ≤ 4) (hf : 75 < r.length + z)
    (t0 : t.getD 0 0 = 13) (t1 : t.getD 1 0 = 10) (hk : 2 * x.size + 10 ≤ k + 2 * A.length) (next : ∀ q, 2 * x.size + 10 ≤ q + 2 * (A.length + r.length + 2) → calepinlaw02_FoldRows.l0 q x ((A.length + r.length + 2 : Nat) : Int) ((A.length + r.length + 2 : Nat) : Int) = some true) :
    calepinlaw02_FoldRows.l0 k x (A.length : Int) (A.length : Int) = some true := by
  have b0 : x.data.toList.getD (A.length + r.length) 0 = 13 := by rw [hl]; exact getD_mid A r _ 0 13 t0 _ rfl
  have b1 : x.data.toList.getD (A.length + r.length + 1) 0 = 10 := by rw [hl]; exact getD_mid A r _ 1 10 t1 _ rfl
  have hno : ∀ j, A.length ≤ j → j < A.length + r.length → x.data.toList.getD j 0 ≠ 13 := fun j h1 h2 => by rw [hl]; exact row_no A r _ h13 j h1 h2
  clear hl h13 t0 t1
  generalize A.length = a at *
  generalize r.length = n at *
  generalize t.length = tt at *
  obtain ⟨q, rfl⟩ : ∃ q, k = 2 * n + (q + 4) := ⟨k - 2 * n - 4, by omega⟩
  rw [scan_row x hx _ n a (q + 4) (by omega) hno, row_next x hx a (a + n) q z (by omega) ⟨by rw [bt_getD x _ (by omega), b0]; rfl⟩ ⟨by rw [bt_getD x _ (by omega), b1]; rfl⟩ (by omega) (by omega) hz hz4 (by omega)]
  exact next q (by omega)
/-- From a row's begin on: rows as they are. -/
theorem rows_from (x : ByteArray) (hx : x.size ≤ 1073741824) : ∀ (n : Nat) (m A r : List UInt8) (k : Nat), m.length ≤ n → x.data.toList = A ++ (r ++ (tail m ++ [13, 10])) → 13 ∉ r → 13 ∉ m → r.length ≤ 75 → (m ≠ [] → 75 < r.length + sz m) → 2 * x.size + 10 ≤ k + 2 * A.length →
    calepinlaw02_FoldRows.l0 k x (A.length : Int) (A.length : Int) = some true := by
  intro n
  induction n with
  | zero =>
    intro m A r k hn hl h13 hm hr hfull hk
    have : m = [] := List.eq_nil_of_length_eq_zero (by omega)
    subst this
    rw [tail_nil, List.nil_append] at hl
    exact rows_end x hx A r k hl h13 hr hk
  | succ n ih =>
    intro m A r k hn hl h13 hm hr hfull hk
    by_cases hmn : m = []
    · exact ih m A r k (by rw [hmn]; exact Nat.zero_le _) hl h13 hm hr hfull hk
    · have hQ := piece_max 74 (by decide) m hmn
      have hQl := piece_le 74 m
      have hQp := piece_pos 74 m hmn
      rw [tail_cons m hmn] at hl
      obtain ⟨Q, hQd⟩ : ∃ Q, piece 74 m = Q := ⟨_, rfl⟩
      rw [hQd] at hQ hQl hQp hl
      have htl : (m.take Q).length = Q := by rw [List.length_take, Nat.min_eq_left hQl]
      obtain ⟨T, hT⟩ : ∃ T, tail (m.drop Q) ++ [13, 10] = 13 :: T := by
        by_cases hd : m.drop Q = []
        · rw [hd, tail_nil]; exact ⟨[10], rfl⟩
        · rw [tail_cons _ hd]; exact ⟨_, rfl⟩
      have hl2 : x.data.toList = A ++ (r ++ (13 :: 10 :: 32 :: (m.take Q ++ 13 :: T))) := by rw [hl, ← hT]; simp
      have hl3 : x.data.toList = (A ++ r ++ [13, 10]) ++ ((32 :: m.take Q) ++ (tail (m.drop Q) ++ [13, 10])) := by rw [hl]; simp
      have hlen : x.size = A.length + r.length + (13 :: 10 :: 32 :: (m.take Q ++ 13 :: T)).length := (size_of x _ hl2).trans (len_a _ _ _)
      have hlen3 : 4 ≤ (13 :: 10 :: 32 :: (m.take Q ++ 13 :: T)).length := by simp only [List.length_cons, List.length_append]; omega
      have hnext : calepinref02_Size.f (x.extract (A.length + r.length + 3) x.size) = some ((sz m : Nat) : Int) := by
        have e : x.extract (A.length + r.length + 3) x.size = mkB (m.take Q ++ 13 :: T) := by
          rw [ext_from, hl2]
          congr 1
          rw [show A ++ (r ++ 13 :: 10 :: 32 :: (m.take Q ++ 13 :: T)) = (A ++ r ++ [13, 10, 32]) ++ (m.take Q ++ 13 :: T) by simp]
          rw [show A.length + r.length + 3 = (A ++ r ++ [13, 10, 32]).length by rw [List.length_append, List.length_append]; rfl, List.drop_left]
        unfold calepinref02_Size.f
        rw [e, mkB_list, sz_cut m (m.take Q) (m.drop Q) T (List.take_append_drop _ _).symm (by rw [htl]; exact hQ.2.1)]
      exact rows_step x hx A r _ k (sz m) hl2 h13 hr hlen hlen3 hnext (sz_le4 m) (hfull hmn) rfl rfl hk fun q hq => by
        have hA : (A ++ r ++ [13, 10]).length = A.length + r.length + 2 := by rw [List.length_append, List.length_append]; rfl
        have := ih (m.drop Q) (A ++ r ++ [13, 10]) (32 :: m.take Q) q (by rw [List.length_drop]; exact ar5 hQp hn) hl3 (by
          intro h
          rcases List.mem_cons.1 h with h | h
          · exact absurd h (by decide)
          · exact hm (List.mem_of_mem_take h)) (fun h => hm (List.mem_of_mem_drop h)) (by rw [List.length_cons, htl]; exact Nat.succ_le_succ hQ.1) (fun h => by rw [List.length_cons, htl]; exact ar6 (hQ.2.2 h)) (by rw [hA]; exact hq)
        rw [hA] at this
        exact this
theorem rows_true (a0 : ByteArray) : ∃ k, calepinlaw02_FoldRows.f k a0 = some true := by
  unfold calepinlaw02_FoldRows.f
  simp only [calepinlaw02_first_is, Option.bind_some, if_true]
  by_cases hbig : (a0.size : Int) > 3000
  · exact ⟨1, by rw [if_pos hbig]; rfl⟩
  · have hG : calepinref02_Good.f a0 = some (good a0.data.toList) := by unfold calepinref02_Good.f; rw [if_pos (by omega)]
    simp only [if_neg hbig, hG, Option.bind_some]
    obtain ⟨l, hl⟩ : ∃ l, a0.data.toList = l := ⟨_, rfl⟩
    have hll : l.length = a0.size := by rw [← hl]; rfl
    rw [hl]
    cases hg : good l with
    | false => exact ⟨1, rfl⟩
    | true =>
      have hup := foldL_up l
      have hne : l ≠ [] := by intro e; rw [e] at hg; cases hg
      have h13 : 13 ∉ l := by
        cases l with
        | nil => simp
        | cons b t => exact ((good_cons b t).1 hg).2.1
      have hP := piece_max 75 (by decide) l hne
      have hPl := piece_le 75 l
      have hB : foldB [a0] = foldL l := by
        show foldL a0.data.toList ++ [] = _
        rw [List.append_nil, hl]
      have hF : fold_Fold.f [a0] = some (mkB (foldL l)) := by
        show PF.fold_Fold.f [a0] = _
        unfold PF.fold_Fold.f
        rw [hB, if_pos (by omega)]
      refine ⟨2 * (foldL l).length + 11, ?_⟩
      show ((fold_Fold.f [a0]).bind fun t131 => (calepinlaw02_FoldRows.l0 (2 * (foldL l).length + 10) t131 0 0)) = _
      rw [hF, Option.bind_some]
      refine rows_from (mkB (foldL l)) (by rw [mkB_size]; omega) _ (l.drop (piece 75 l)) [] (l.take (piece 75 l)) _ (Nat.le_refl _) ?_ (fun h => h13 (List.mem_of_mem_take h)) (fun h => h13 (List.mem_of_mem_drop h)) (by rw [piece_len]; exact hP.1) (fun h => by rw [piece_len]; exact hP.2.2 h) (by rw [mkB_size]; simp)
      rw [mkB_list, List.nil_append]; rfl

end Go.Proofs.YtkkbkdpfhbjliaaDoor.PL
