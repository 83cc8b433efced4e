/- A text's characters in plain lists; folding by pieces is folding character by character. -/
import Derived.Test.YtkkbkdpfhbjliaaDoorRowsL
import Derived.Lib.DecodeN
namespace Go.Proofs.YtkkbkdpfhbjliaaDoor.PF
set_option linter.unusedVariables false
set_option linter.unusedSimpArgs false
set_option maxRecDepth 100000

open Go.Lib
def szN (n b0 b1 b2 b3 : Nat) : Nat := (decodeN n b0 b1 b2 b3).2
/-- How many bytes the character at the front has (1, if it is none). -/
def sz (l : List UInt8) : Nat := szN l.length (l.getD 0 0).toNat (l.getD 1 0).toNat (l.getD 2 0).toNat (l.getD 3 0).toNat
theorem szN_range (n b0 b1 b2 b3 : Nat) : 1 ≤ szN n b0 b1 b2 b3 ∧ szN n b0 b1 b2 b3 ≤ 4 := by
  unfold szN decodeN
  repeat' split
  all_goals simp
theorem szN_le (n b0 b1 b2 b3 : Nat) (h : 1 ≤ n) : szN n b0 b1 b2 b3 ≤ n := by
  unfold szN decodeN
  repeat' split
  all_goals simp only
  all_goals omega
theorem szN_2 (n b0 b1 b2 b3 : Nat) (h : szN n b0 b1 b2 b3 = 2) : 128 ≤ b0 ∧ 128 ≤ b1 ∧ ∀ n' c2 c3, 2 ≤ n' → szN n' b0 b1 c2 c3 = 2 := by
  unfold szN decodeN at h
  by_cases c1 : b0 < 128
  · rw [if_pos c1] at h; exact absurd h (by simp)
  rw [if_neg c1] at h
  by_cases c2 : b0 / 32 = 6 ∧ (1 < n ∧ b1 / 64 = 2)
  · rw [if_pos c2] at h
    by_cases c3 : b0 % 32 * 64 + b1 % 64 ≥ 128
    · refine ⟨by omega, by omega, fun n' d2 d3 hn => ?_⟩
      unfold szN decodeN
      rw [if_neg c1, if_pos ⟨c2.1, hn, c2.2.2⟩, if_pos c3]
    · rw [if_neg c3] at h; exact absurd h (by decide)
  · rw [if_neg c2] at h
    repeat' split at h
    all_goals exact absurd h (by simp)
theorem szN_3 (n b0 b1 b2 b3 : Nat) (h : szN n b0 b1 b2 b3 = 3) : 128 ≤ b0 ∧ 128 ≤ b1 ∧ 128 ≤ b2 ∧ ∀ n' c3, 3 ≤ n' → szN n' b0 b1 b2 c3 = 3 := by
  unfold szN decodeN at h
  by_cases c1 : b0 < 128
  · rw [if_pos c1] at h; exact absurd h (by simp)
  rw [if_neg c1] at h
  by_cases c2 : b0 / 32 = 6 ∧ (1 < n ∧ b1 / 64 = 2)
  · rw [if_pos c2] at h
    repeat' split at h
    all_goals exact absurd h (by simp)
  rw [if_neg c2] at h
  by_cases c3 : b0 / 16 = 14 ∧ (1 < n ∧ b1 / 64 = 2) ∧ (2 < n ∧ b2 / 64 = 2)
  · rw [if_pos c3] at h
    split at h
    · rename_i c4
      refine ⟨by omega, by omega, by omega, fun n' d3 hn => ?_⟩
      unfold szN decodeN
      rw [if_neg c1, if_neg (by omega), if_pos ⟨c3.1, ⟨by omega, c3.2.1.2⟩, by omega, c3.2.2.2⟩, if_pos c4]
    · exact absurd h (by decide)
  · rw [if_neg c3] at h
    repeat' split at h
    all_goals exact absurd h (by simp)
theorem szN_4 (n b0 b1 b2 b3 : Nat) (h : szN n b0 b1 b2 b3 = 4) : 128 ≤ b0 ∧ 128 ≤ b1 ∧ 128 ≤ b2 ∧ 128 ≤ b3 ∧ ∀ n', 4 ≤ n' → szN n' b0 b1 b2 b3 = 4 := by
  unfold szN decodeN at h
  by_cases c1 : b0 < 128
  · rw [if_pos c1] at h; exact absurd h (by simp)
  rw [if_neg c1] at h
  by_cases c2 : b0 / 32 = 6 ∧ (1 < n ∧ b1 / 64 = 2)
  · rw [if_pos c2] at h
    repeat' split at h
    all_goals exact absurd h (by simp)
  rw [if_neg c2] at h
  by_cases c3 : b0 / 16 = 14 ∧ (1 < n ∧ b1 / 64 = 2) ∧ (2 < n ∧ b2 / 64 = 2)
  · rw [if_pos c3] at h
    repeat' split at h
    all_goals exact absurd h (by simp)
  rw [if_neg c3] at h
  by_cases c4 : b0 / 8 = 30 ∧ (1 < n ∧ b1 / 64 = 2) ∧ (2 < n ∧ b2 / 64 = 2) ∧ (3 < n ∧ b3 / 64 = 2)
  · rw [if_pos c4] at h
    split at h
    · rename_i c5
      refine ⟨by omega, by omega, by omega, by omega, fun n' hn => ?_⟩
      unfold szN decodeN
      rw [if_neg c1, if_neg (by omega), if_neg (by omega), if_pos ⟨c4.1, ⟨by omega, c4.2.1.2⟩, ⟨by omega, c4.2.2.1.2⟩, by omega, c4.2.2.2.2⟩, if_pos c5]
    · exact absurd h (by decide)
  · rw [if_neg c4] at h
    exact absurd h (by simp)
theorem sz_pos (l : List UInt8) : 1 ≤ sz l := (szN_range _ _ _ _ _).1
theorem sz_le4 (l : List UInt8) : sz l ≤ 4 := (szN_range _ _ _ _ _).2
theorem sz_le (l : List UInt8) (h : l ≠ []) : sz l ≤ l.length := szN_le _ _ _ _ _ (by cases l with | nil => exact absurd rfl h | cons => simp)
/-- A character of two bytes or more: its bytes are no ASCII, and it is the same whatever follows. -/
theorem sz_same (l p t : List UInt8) (hl : l = p ++ t) (hp : p.length = sz l) (h2 : 2 ≤ sz l) : (∀ b ∈ p, 128 ≤ b.toNat) ∧ ∀ t', sz (p ++ t') = sz l := by
  have h4 := sz_le4 l
  rcases (show sz l = 2 ∨ sz l = 3 ∨ sz l = 4 by omega) with e | e | e
  · rw [e] at hp
    match p, hp with
    | [x, y], _ =>
      subst hl
      have h := szN_2 _ _ _ _ _ e
      simp only [List.cons_append, List.nil_append, List.getD_cons_zero, List.getD_cons_succ] at h
      refine ⟨fun b hb => ?_, fun t' => ?_⟩
      · simp at hb; rcases hb with rfl | rfl <;> first | exact h.1 | exact h.2.1
      · rw [e]; exact h.2.2 _ _ _ (by simp)
  · rw [e] at hp
    match p, hp with
    | [x, y, z], _ =>
      subst hl
      have h := szN_3 _ _ _ _ _ e
      simp only [List.cons_append, List.nil_append, List.getD_cons_zero, List.getD_cons_succ] at h
      refine ⟨fun b hb => ?_, fun t' => ?_⟩
      · simp at hb; rcases hb with rfl | rfl | rfl <;> first | exact h.1 | exact h.2.1 | exact h.2.2.1
      · rw [e]; exact h.2.2.2 _ _ (by simp)
  · rw [e] at hp
    match p, hp with
    | [x, y, z, v], _ =>
      subst hl
      have h := szN_4 _ _ _ _ _ e
      simp only [List.cons_append, List.nil_append, List.getD_cons_zero, List.getD_cons_succ] at h
      refine ⟨fun b hb => ?_, fun t' => ?_⟩
      · simp at hb; rcases hb with rfl | rfl | rfl | rfl <;> first | exact h.1 | exact h.2.1 | exact h.2.2.1 | exact h.2.2.2.1
      · rw [e]; exact h.2.2.2.2 _ (by simp)
/-! ### the characters of a text -/
def charsF : Nat → List UInt8 → List (List UInt8)
  | 0, _ => []
  | n + 1, l => if l = [] then [] else l.take (sz l) :: charsF n (l.drop (sz l))
def chars (l : List UInt8) : List (List UInt8) := charsF l.length l
theorem charsF_eq : ∀ (n m : Nat) (l : List UInt8), l.length ≤ n → l.length ≤ m → charsF n l = charsF m l
  | 0, 0, l, _, _ => rfl
  | 0, m + 1, l, h, _ => by
    have : l = [] := List.eq_nil_of_length_eq_zero (by omega)
    subst this; rfl
  | n + 1, 0, l, _, h => by
    have : l = [] := List.eq_nil_of_length_eq_zero (by omega)
    subst this; rfl
  | n + 1, m + 1, l, h1, h2 => by
    unfold charsF
    split
    · rfl
    · have := sz_pos l
      rw [charsF_eq n m _ (by rw [List.length_drop]; omega) (by rw [List.length_drop]; omega)]
theorem chars_nil : chars [] = [] := rfl
theorem chars_cons (l : List UInt8) (h : l ≠ []) : chars l = l.take (sz l) :: chars (l.drop (sz l)) := by
  unfold chars
  have hs := sz_pos l
  have : 1 ≤ l.length := by cases l with | nil => exact absurd rfl h | cons => simp
  obtain ⟨n, hn⟩ : ∃ n, l.length = n + 1 := ⟨l.length - 1, by omega⟩
  conv => lhs; rw [hn]; unfold charsF
  rw [if_neg h, charsF_eq n _ _ (by rw [List.length_drop]; omega) (Nat.le_refl _)]
theorem len_ind {P : List UInt8 → Prop} (h0 : P []) (h1 : ∀ l, l ≠ [] → P (l.drop (sz l)) → P l) (l : List UInt8) : P l := by
  obtain ⟨n, hn⟩ : ∃ n, l.length ≤ n := ⟨_, Nat.le_refl _⟩
  induction n generalizing l with
  | zero => have : l = [] := List.eq_nil_of_length_eq_zero (by omega); subst this; exact h0
  | succ n ih =>
    by_cases hl : l = []
    · subst hl; exact h0
    · have := sz_pos l
      exact h1 l hl (ih _ (by rw [List.length_drop]; omega))
theorem chars_flat (l : List UInt8) : (chars l).flatten = l := by
  induction l using len_ind with
  | h0 => rfl
  | h1 l hl ih => rw [chars_cons l hl, List.flatten_cons, ih, List.take_append_drop]
theorem chars_len (l : List UInt8) : ∀ c ∈ chars l, 1 ≤ c.length ∧ c.length ≤ 4 := by
  induction l using len_ind with
  | h0 => intro c hc; cases hc
  | h1 l hl ih =>
    intro c hc
    rw [chars_cons l hl] at hc
    rcases List.mem_cons.1 hc with rfl | hc
    · have h1 := sz_pos l; have h2 := sz_le4 l; have h3 := sz_le l hl
      rw [List.length_take]; omega
    · exact ih c hc
theorem chars_ne (l : List UInt8) : ∀ c ∈ chars l, c ≠ [] := fun c hc e => by
  have := (chars_len l c hc).1
  rw [e] at this
  exact absurd this (by decide)
/-! ### pieces -/
/-- So many bytes of a text go into a row of at most so many bytes, of which n are taken. -/
def pc (most : Nat) : Nat → List UInt8 → Nat → Nat
  | 0, _, n => n
  | f + 1, l, n => if l = [] then n else if 0 < n ∧ most < n + sz l then n else pc most f (l.drop (sz l)) (n + sz l)
theorem pc_eq (most : Nat) : ∀ (f g : Nat) (l : List UInt8) (n : Nat), l.length ≤ f → l.length ≤ g → pc most f l n = pc most g l n
  | 0, 0, l, n, _, _ => rfl
  | 0, g + 1, l, n, h, _ => by
    have : l = [] := List.eq_nil_of_length_eq_zero (by omega)
    subst this; rfl
  | f + 1, 0, l, n, _, h => by
    have : l = [] := List.eq_nil_of_length_eq_zero (by omega)
    subst this; rfl
  | f + 1, g + 1, l, n, h1, h2 => by
    unfold pc
    split
    · rfl
    · split
      · rfl
      · have := sz_pos l
        exact pc_eq most f g _ _ (by rw [List.length_drop]; omega) (by rw [List.length_drop]; omega)
theorem pc_step (most f : Nat) (l : List UInt8) (n : Nat) (hl : l ≠ []) (hf : l.length ≤ f) : pc most f l n = if 0 < n ∧ most < n + sz l then n else pc most f (l.drop (sz l)) (n + sz l) := by
  have h1 : 1 ≤ l.length := by cases l with | nil => exact absurd rfl hl | cons => simp
  obtain ⟨g, rfl⟩ : ∃ g, f = g + 1 := ⟨f - 1, by omega⟩
  conv => lhs; unfold pc
  rw [if_neg hl]
  split
  · rfl
  · have := sz_pos l
    exact pc_eq most g (g + 1) _ _ (by rw [List.length_drop]; omega) (by rw [List.length_drop]; omega)
/-- How many bytes of a text go into a row. -/
def piece (most : Nat) (l : List UInt8) : Nat := pc most l.length l 0
theorem pc_ge (most : Nat) : ∀ (f : Nat) (l : List UInt8) (n : Nat), l.length ≤ f → n ≤ pc most f l n ∧ pc most f l n ≤ n + l.length
  | 0, l, n, _ => ⟨Nat.le_refl _, Nat.le_add_right _ _⟩
  | f + 1, l, n, h => by
    unfold pc
    split
    · exact ⟨Nat.le_refl _, Nat.le_add_right _ _⟩
    · split
      · exact ⟨Nat.le_refl _, Nat.le_add_right _ _⟩
      · rename_i hl _
        have h1 := sz_pos l
        have h3 := sz_le l hl
        have := pc_ge most f (l.drop (sz l)) (n + sz l) (by rw [List.length_drop]; omega)
        rw [List.length_drop] at this
        omega
theorem piece_le (most : Nat) (l : List UInt8) : piece most l ≤ l.length := by
  have := (pc_ge most l.length l 0 (Nat.le_refl _)).2
  unfold piece; omega
theorem piece_pos (most : Nat) (l : List UInt8) (h : l ≠ []) : 1 ≤ piece most l := by
  unfold piece
  rw [pc_step most _ l 0 h (Nat.le_refl _), if_neg (by omega)]
  have := (pc_ge most l.length (l.drop (sz l)) (0 + sz l) (by rw [List.length_drop]; omega)).1
  have := sz_pos l
  omega
/-- What follows behind a line's first row. -/
def tailF : Nat → List UInt8 → List UInt8
  | 0, _ => []
  | f + 1, l => if l = [] then [] else 13 :: 10 :: 32 :: (l.take (piece 74 l) ++ tailF f (l.drop (piece 74 l)))
theorem tailF_eq : ∀ (f g : Nat) (l : List UInt8), l.length ≤ f → l.length ≤ g → tailF f l = tailF g l
  | 0, 0, l, _, _ => rfl
  | 0, g + 1, l, h, _ => by
    have : l = [] := List.eq_nil_of_length_eq_zero (by omega)
    subst this; rfl
  | f + 1, 0, l, _, h => by
    have : l = [] := List.eq_nil_of_length_eq_zero (by omega)
    subst this; rfl
  | f + 1, g + 1, l, h1, h2 => by
    unfold tailF
    split
    · rfl
    · rename_i hl
      have := piece_pos 74 l hl
      rw [tailF_eq f g _ (by rw [List.length_drop]; omega) (by rw [List.length_drop]; omega)]
def tail (l : List UInt8) : List UInt8 := tailF l.length l
theorem tail_nil : tail [] = [] := rfl
theorem tail_cons (l : List UInt8) (hl : l ≠ []) : tail l = 13 :: 10 :: 32 :: (l.take (piece 74 l) ++ tail (l.drop (piece 74 l))) := by
  unfold tail
  have h1 : 1 ≤ l.length := by cases l with | nil => exact absurd rfl hl | cons => simp
  obtain ⟨n, hn⟩ : ∃ n, l.length = n + 1 := ⟨l.length - 1, by omega⟩
  conv => lhs; rw [hn]; unfold tailF
  have := piece_pos 74 l hl
  rw [if_neg hl, tailF_eq n _ _ (by rw [List.length_drop]; omega) (Nat.le_refl _)]
/-- A line, folded. -/
def foldL (l : List UInt8) : List UInt8 := l.take (piece 75 l) ++ (tail (l.drop (piece 75 l)) ++ [13, 10])
theorem take_take_drop (l : List UInt8) (a b : Nat) : l.take a ++ (l.drop a).take b = l.take (a + b) := (List.take_add ..).symm
theorem go_pc (most : Nat) : ∀ (k : Nat) (l : List UInt8) (n : Nat), l.length ≤ k → 0 < n → n ≤ most → ∃ m, pc most l.length l n = n + m ∧ m ≤ l.length ∧
    go (chars l) (most - n) false = l.take m ++ (if l.drop m = [] then [] else 13 :: 10 :: 32 :: go (chars (l.drop m)) 74 true)
  | 0, l, n, hk, _, _ => by
    have : l = [] := List.eq_nil_of_length_eq_zero (by omega)
    subst this
    exact ⟨0, rfl, Nat.le_refl _, by simp [chars_nil, go]⟩
  | k + 1, l, n, hk, h0, hm => by
    by_cases hl : l = []
    · subst hl
      exact ⟨0, rfl, Nat.le_refl _, by simp [chars_nil, go]⟩
    have h1 := sz_pos l
    have h3 := sz_le l hl
    have h4 := sz_le4 l
    rw [pc_step most _ l n hl (Nat.le_refl _)]
    have ht : (l.take (sz l)).length = sz l := by rw [List.length_take]; omega
    by_cases c : most < n + sz l
    · rw [if_pos ⟨h0, c⟩]
      refine ⟨0, rfl, Nat.zero_le _, ?_⟩
      rw [List.drop_zero, if_neg hl, List.take_zero, List.nil_append]
      rw [chars_cons l hl]
      conv => lhs; unfold go
      conv => rhs; unfold go
      rw [if_pos ⟨by rw [ht]; omega, rfl⟩, if_neg (by simp)]
    · rw [if_neg (by omega)]
      obtain ⟨m, e1, e2, e3⟩ := go_pc most k (l.drop (sz l)) (n + sz l) (by rw [List.length_drop]; omega) (by omega) (by omega)
      rw [List.length_drop] at e2
      refine ⟨sz l + m, ?_, by omega, ?_⟩
      · rw [pc_eq most _ (l.drop (sz l)).length _ _ (by rw [List.length_drop]; omega) (Nat.le_refl _), e1]; omega
      · rw [chars_cons l hl]
        conv => lhs; unfold go
        rw [if_neg (by rw [ht]; omega), ht, show most - n - sz l = most - (n + sz l) by omega, e3, ← List.append_assoc, take_take_drop, List.drop_drop]
/-- A line's characters in rows: as pieces, one after another. -/
theorem go_first (most : Nat) (h4 : 4 ≤ most) (l : List UInt8) (hl : l ≠ []) : go (chars l) most true = l.take (piece most l) ++ (if l.drop (piece most l) = [] then [] else 13 :: 10 :: 32 :: go (chars (l.drop (piece most l))) 74 true) := by
  have h1 := sz_pos l
  have h3 := sz_le l hl
  have h5 := sz_le4 l
  have ht : (l.take (sz l)).length = sz l := by rw [List.length_take]; omega
  obtain ⟨m, e1, e2, e3⟩ := go_pc most _ (l.drop (sz l)) (sz l) (Nat.le_refl _) (by omega) (by omega)
  rw [List.length_drop] at e2
  have hp : piece most l = sz l + m := by
    unfold piece
    rw [pc_step most _ l 0 hl (Nat.le_refl _), if_neg (by omega), pc_eq most _ (l.drop (sz l)).length _ _ (by rw [List.length_drop]; omega) (Nat.le_refl _), Nat.zero_add, e1]
  rw [hp, chars_cons l hl]
  conv => lhs; unfold go
  rw [if_neg (by simp), ht, e3, ← List.append_assoc, take_take_drop, List.drop_drop]
theorem go_tail : ∀ (k : Nat) (l : List UInt8), l.length ≤ k → (if l = [] then [] else 13 :: 10 :: 32 :: go (chars l) 74 true) = tail l
  | 0, l, hk => by
    have : l = [] := List.eq_nil_of_length_eq_zero (by omega)
    subst this; rfl
  | k + 1, l, hk => by
    by_cases hl : l = []
    · subst hl; rfl
    · have hp := piece_pos 74 l hl
      have h1 : 1 ≤ l.length := by cases l with | nil => exact absurd rfl hl | cons => simp
      rw [if_neg hl, tail_cons l hl, go_first 74 (by decide) l hl, go_tail k _ (by rw [List.length_drop]; omega)]
/-- FOLDING BY PIECES IS FOLDING CHARACTER BY CHARACTER. -/
theorem foldL_go (l : List UInt8) : foldL l = go (chars l) 75 true ++ [13, 10] := by
  unfold foldL
  by_cases hl : l = []
  · subst hl; rfl
  · rw [go_first 75 (by decide) l hl, go_tail _ _ (Nat.le_refl _), List.append_assoc]
def foldAllL : List (List UInt8) → List UInt8
  | [] => []
  | l :: ls => foldL l ++ foldAllL ls
theorem foldAllL_eq : ∀ ls : List (List UInt8), foldAllL ls = foldAll (ls.map chars)
  | [] => rfl
  | l :: ls => by
    unfold foldAllL
    rw [List.map_cons]
    unfold foldAll
    rw [foldL_go, foldAllL_eq ls, List.append_assoc]; rfl
/-- WHAT GOOD LINES ARE FOLDED TO IS UNFOLDED TO THEM. -/
theorem unfold_fold (ls : List (List UInt8)) (h : ∀ l ∈ ls, good l = true) : unfold (foldAllL ls) = some ls := by
  unfold unfold
  rw [foldAllL_eq, unf_all _ _ (fun cs hcs => by
    obtain ⟨l, hl, rfl⟩ := List.mem_map.1 hcs
    exact ⟨by rw [chars_flat]; exact h l hl, chars_ne l⟩), List.nil_append, List.map_map]
  congr 1
  conv => rhs; rw [← List.map_id ls]
  apply List.map_congr_left
  intro l _
  exact chars_flat l

end Go.Proofs.YtkkbkdpfhbjliaaDoor.PF
