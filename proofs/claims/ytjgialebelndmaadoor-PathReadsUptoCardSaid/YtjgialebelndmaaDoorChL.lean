/- A text's characters in plain lists; what a valid text is. -/
import Derived.Lib.DecodeN
import Derived.Lib.ValidLaws
import Derived.Shelf.GgClosure.StringsIndexFunc
namespace Go.Proofs.YtjgialebelndmaaDoor.PF
set_option linter.unusedVariables false
set_option linter.unusedSimpArgs false
set_option maxRecDepth 100000
open Go

open Go.Lib
def szN (n b0 b1 b2 b3 : Nat) : Nat := (decodeN n b0 b1 b2 b3).2
/-- How many bytes the character at the front has (1, if it is none). -/
def sz (l : List UInt8) : Nat := szN l.length (l.getD 0 0).toNat (l.getD 1 0).toNat (l.getD 2 0).toNat (l.getD 3 0).toNat
theorem szN_range (n b0 b1 b2 b3 : Nat) : 1 ≤ szN n b0 b1 b2 b3 ∧ szN n b0 b1 b2 b3 ≤ 4 := by
  unfold szN decodeN
  repeat' split
  all_goals simp
theorem szN_le (n b0 b1 b2 b3 : Nat) (h : 1 ≤ n) : szN n b0 b1 b2 b3 ≤ n := by
  unfold szN decodeN
  repeat' split
  all_goals simp only
  all_goals omega
theorem szN_2 (n b0 b1 b2 b3 : Nat) (h : szN n b0 b1 b2 b3 = 2) : 128 ≤ b0 ∧ 128 ≤ b1 ∧ ∀ n' c2 c3, 2 ≤ n' → szN n' b0 b1 c2 c3 = 2 := by
  unfold szN decodeN at h
  by_cases c1 : b0 < 128
  · rw [if_pos c1] at h; exact absurd h (by simp)
  rw [if_neg c1] at h
  by_cases c2 : b0 / 32 = 6 ∧ (1 < n ∧ b1 / 64 = 2)
  · rw [if_pos c2] at h
    by_cases c3 : b0 % 32 * 64 + b1 % 64 ≥ 128
    · refine ⟨by omega, by omega, fun n' d2 d3 hn => ?_⟩
      unfold szN decodeN
      rw [if_neg c1, if_pos ⟨c2.1, hn, c2.2.2⟩, if_pos c3]
    · rw [if_neg c3] at h; exact absurd h (by decide)
  · rw [if_neg c2] at h
    repeat' split at h
    all_goals exact absurd h (by simp)
theorem szN_3 (n b0 b1 b2 b3 : Nat) (h : szN n b0 b1 b2 b3 = 3) : 128 ≤ b0 ∧ 128 ≤ b1 ∧ 128 ≤ b2 ∧ ∀ n' c3, 3 ≤ n' → szN n' b0 b1 b2 c3 = 3 := by
  unfold szN decodeN at h
  by_cases c1 : b0 < 128
  · rw [if_pos c1] at h; exact absurd h (by simp)
  rw [if_neg c1] at h
  by_cases c2 : b0 / 32 = 6 ∧ (1 < n ∧ b1 / 64 = 2)
  · rw [if_pos c2] at h
    repeat' split at h
    all_goals exact absurd h (by simp)
  rw [if_neg c2] at h
  by_cases c3 : b0 / 16 = 14 ∧ (1 < n ∧ b1 / 64 = 2) ∧ (2 < n ∧ b2 / 64 = 2)
  · rw [if_pos c3] at h
    split at h
    · rename_i c4
      refine ⟨by omega, by omega, by omega, fun n' d3 hn => ?_⟩
      unfold szN decodeN
      rw [if_neg c1, if_neg (by omega), if_pos ⟨c3.1, ⟨by omega, c3.2.1.2⟩, by omega, c3.2.2.2⟩, if_pos c4]
    · exact absurd h (by decide)
  · rw [if_neg c3] at h
    repeat' split at h
    all_goals exact absurd h (by simp)
theorem szN_4 (n b0 b1 b2 b3 : Nat) (h : szN n b0 b1 b2 b3 = 4) : 128 ≤ b0 ∧ 128 ≤ b1 ∧ 128 ≤ b2 ∧ 128 ≤ b3 ∧ ∀ n', 4 ≤ n' → szN n' b0 b1 b2 b3 = 4 := by
  unfold szN decodeN at h
  by_cases c1 : b0 < 128
  · rw [if_pos c1] at h; exact absurd h (by simp)
  rw [if_neg c1] at h
  by_cases c2 : b0 / 32 = 6 ∧ (1 < n ∧ b1 / 64 = 2)
  · rw [if_pos c2] at h
    repeat' split at h
    all_goals exact absurd h (by simp)
  rw [if_neg c2] at h
  by_cases c3 : b0 / 16 = 14 ∧ (1 < n ∧ b1 / 64 = 2) ∧ (2 < n ∧ b2 / 64 = 2)
  · rw [if_pos c3] at h
    repeat' split at h
    all_goals exact absurd h (by simp)
  rw [if_neg c3] at h
  by_cases c4 : b0 / 8 = 30 ∧ (1 < n ∧ b1 / 64 = 2) ∧ (2 < n ∧ b2 / 64 = 2) ∧ (3 < n ∧ b3 / 64 = 2)
  · rw [if_pos c4] at h
    split at h
    · rename_i c5
      refine ⟨by omega, by omega, by omega, by omega, fun n' hn => ?_⟩
      unfold szN decodeN
      rw [if_neg c1, if_neg (by omega), if_neg (by omega), if_pos ⟨c4.1, ⟨by omega, c4.2.1.2⟩, ⟨by omega, c4.2.2.1.2⟩, by omega, c4.2.2.2.2⟩, if_pos c5]
    · exact absurd h (by decide)
  · rw [if_neg c4] at h
    exact absurd h (by simp)
theorem sz_pos (l : List UInt8) : 1 ≤ sz l := (szN_range _ _ _ _ _).1
theorem sz_le4 (l : List UInt8) : sz l ≤ 4 := (szN_range _ _ _ _ _).2
theorem sz_le (l : List UInt8) (h : l ≠ []) : sz l ≤ l.length := szN_le _ _ _ _ _ (by cases l with | nil => exact absurd rfl h | cons => simp)
/-- A character of two bytes or more: its bytes are no ASCII, and it is the same whatever follows. -/
theorem sz_same (l p t : List UInt8) (hl : l = p ++ t) (hp : p.length = sz l) (h2 : 2 ≤ sz l) : (∀ b ∈ p, 128 ≤ b.toNat) ∧ ∀ t', sz (p ++ t') = sz l := by
  have h4 := sz_le4 l
  rcases (show sz l = 2 ∨ sz l = 3 ∨ sz l = 4 by omega) with e | e | e
  · rw [e] at hp
    match p, hp with
    | [x, y], _ =>
      subst hl
      have h := szN_2 _ _ _ _ _ e
      simp only [List.cons_append, List.nil_append, List.getD_cons_zero, List.getD_cons_succ] at h
      refine ⟨fun b hb => ?_, fun t' => ?_⟩
      · simp at hb; rcases hb with rfl | rfl <;> first | exact h.1 | exact h.2.1
      · rw [e]; exact h.2.2 _ _ _ (by simp)
  · rw [e] at hp
    match p, hp with
    | [x, y, z], _ =>
      subst hl
      have h := szN_3 _ _ _ _ _ e
      simp only [List.cons_append, List.nil_append, List.getD_cons_zero, List.getD_cons_succ] at h
      refine ⟨fun b hb => ?_, fun t' => ?_⟩
      · simp at hb; rcases hb with rfl | rfl | rfl <;> first | exact h.1 | exact h.2.1 | exact h.2.2.1
      · rw [e]; exact h.2.2.2 _ _ (by simp)
  · rw [e] at hp
    match p, hp with
    | [x, y, z, v], _ =>
      subst hl
      have h := szN_4 _ _ _ _ _ e
      simp only [List.cons_append, List.nil_append, List.getD_cons_zero, List.getD_cons_succ] at h
      refine ⟨fun b hb => ?_, fun t' => ?_⟩
      · simp at hb; rcases hb with rfl | rfl | rfl | rfl <;> first | exact h.1 | exact h.2.1 | exact h.2.2.1 | exact h.2.2.2.1
      · rw [e]; exact h.2.2.2.2 _ (by simp)
/-! ### the characters of a text -/
def charsF : Nat → List UInt8 → List (List UInt8)
  | 0, _ => []
  | n + 1, l => if l = [] then [] else l.take (sz l) :: charsF n (l.drop (sz l))
def chars (l : List UInt8) : List (List UInt8) := charsF l.length l
theorem charsF_eq : ∀ (n m : Nat) (l : List UInt8), l.length ≤ n → l.length ≤ m → charsF n l = charsF m l
  | 0, 0, l, _, _ => rfl
  | 0, m + 1, l, h, _ => by
    have : l = [] := List.eq_nil_of_length_eq_zero (by omega)
    subst this; rfl
  | n + 1, 0, l, _, h => by
    have : l = [] := List.eq_nil_of_length_eq_zero (by omega)
    subst this; rfl
  | n + 1, m + 1, l, h1, h2 => by
    unfold charsF
    split
    · rfl
    · have := sz_pos l
      rw [charsF_eq n m _ (by rw [List.length_drop]; omega) (by rw [List.length_drop]; omega)]
theorem chars_nil : chars [] = [] := rfl
theorem chars_cons (l : List UInt8) (h : l ≠ []) : chars l = l.take (sz l) :: chars (l.drop (sz l)) := by
  unfold chars
  have hs := sz_pos l
  have : 1 ≤ l.length := by cases l with | nil => exact absurd rfl h | cons => simp
  obtain ⟨n, hn⟩ : ∃ n, l.length = n + 1 := ⟨l.length - 1, by omega⟩
  conv => lhs; rw [hn]; unfold charsF
  rw [if_neg h, charsF_eq n _ _ (by rw [List.length_drop]; omega) (Nat.le_refl _)]
theorem len_ind {P : List UInt8 → Prop} (h0 : P []) (h1 : ∀ l, l ≠ [] → P (l.drop (sz l)) → P l) (l : List UInt8) : P l := by
  obtain ⟨n, hn⟩ : ∃ n, l.length ≤ n := ⟨_, Nat.le_refl _⟩
  induction n generalizing l with
  | zero => have : l = [] := List.eq_nil_of_length_eq_zero (by omega); subst this; exact h0
  | succ n ih =>
    by_cases hl : l = []
    · subst hl; exact h0
    · have := sz_pos l
      exact h1 l hl (ih _ (by rw [List.length_drop]; omega))
theorem chars_flat (l : List UInt8) : (chars l).flatten = l := by
  induction l using len_ind with
  | h0 => rfl
  | h1 l hl ih => rw [chars_cons l hl, List.flatten_cons, ih, List.take_append_drop]
theorem chars_len (l : List UInt8) : ∀ c ∈ chars l, 1 ≤ c.length ∧ c.length ≤ 4 := by
  induction l using len_ind with
  | h0 => intro c hc; cases hc
  | h1 l hl ih =>
    intro c hc
    rw [chars_cons l hl] at hc
    rcases List.mem_cons.1 hc with rfl | hc
    · have h1 := sz_pos l; have h2 := sz_le4 l; have h3 := sz_le l hl
      rw [List.length_take]; omega
    · exact ih c hc
theorem chars_ne (l : List UInt8) : ∀ c ∈ chars l, c ≠ [] := fun c hc e => by
  have := (chars_len l c hc).1
  rw [e] at this
  exact absurd this (by decide)

/-- The character at the front. -/
def rn (l : List UInt8) : Nat := (decodeN l.length (l.getD 0 0).toNat (l.getD 1 0).toNat (l.getD 2 0).toNat (l.getD 3 0).toNat).1
def bad (l : List UInt8) : Bool := decide (rn l = 65533 ∧ sz l = 1)
def ctl (r : Nat) : Bool := (decide (r < 32) && decide (r ≠ 9) && decide (r ≠ 10) && decide (r ≠ 13)) || decide (r = 127)
def vF : Nat → List UInt8 → Bool
  | 0, _ => true
  | n + 1, l => if l = [] then true else !bad l && !ctl (rn l) && vF n (l.drop (sz l))
/-- A text: characters, none of them a control character. -/
def vld (l : List UInt8) : Bool := vF l.length l
theorem vF_eq : ∀ (n m : Nat) (l : List UInt8), l.length ≤ n → l.length ≤ m → vF n l = vF m l
  | 0, 0, l, _, _ => rfl
  | 0, m + 1, l, h, _ => by
    have : l = [] := List.eq_nil_of_length_eq_zero (by omega)
    subst this; rfl
  | n + 1, 0, l, _, h => by
    have : l = [] := List.eq_nil_of_length_eq_zero (by omega)
    subst this; rfl
  | n + 1, m + 1, l, h1, h2 => by
    unfold vF
    split
    · rfl
    · have := sz_pos l
      rw [vF_eq n m _ (by rw [List.length_drop]; omega) (by rw [List.length_drop]; omega)]
theorem vld_nil : vld [] = true := rfl
theorem vld_cons (l : List UInt8) (h : l ≠ []) : vld l = (!bad l && !ctl (rn l) && vld (l.drop (sz l))) := by
  unfold vld
  have hs := sz_pos l
  have : 1 ≤ l.length := by cases l with | nil => exact absurd rfl h | cons => simp
  obtain ⟨n, hn⟩ : ∃ n, l.length = n + 1 := ⟨l.length - 1, by omega⟩
  conv => lhs; rw [hn]; unfold vF
  rw [if_neg h, vF_eq n _ _ (by rw [List.length_drop]; omega) (Nat.le_refl _)]
theorem get!_getD (s : ByteArray) (k : Nat) : s.get! k = s.data.toList.getD k 0 := by
  rw [List.getD_eq_getElem?_getD, Array.getElem?_toList]
  show s.data[k]! = _
  rw [getElem!_def]
  cases s.data[k]? <;> rfl
theorem decode_is (s : ByteArray) (i : Nat) : Utf8.decode s i = (rn (s.data.toList.drop i), sz (s.data.toList.drop i)) := by
  rw [Lib.decode_at]
  unfold rn sz szN
  have hl : s.size = s.data.toList.length := rfl
  simp only [get!_getD, List.getD_eq_getElem?_getD, List.getElem?_drop, List.length_drop, Nat.add_zero]
  rw [hl]
theorem decodeL_is (l : List UInt8) : Lib.decodeL l = (rn l, sz l) := by
  unfold Lib.decodeL
  rw [decode_is, List.drop_zero]
/-- utf8.ValidString and strings.IndexFunc of control characters, together. -/
theorem vld_is (s : ByteArray) : ∀ (f pos : Nat), s.size ≤ pos + f → (Lib.validD (s.data.toList.drop pos) && decide (Lib.idxFuncFrom ctl true s f pos < 0)) = vld (s.data.toList.drop pos)
  | 0, pos, h => by
    have : s.data.toList.drop pos = [] := List.drop_of_length_le (by show s.size ≤ pos; omega)
    rw [this]
    rfl
  | f + 1, pos, h => by
    have hl : s.data.toList.length = s.size := rfl
    by_cases hp : pos < s.size
    · have hne : s.data.toList.drop pos ≠ [] := by intro e; have := congrArg List.length e; rw [List.length_drop, hl] at this; simp at this; omega
      have h1 := sz_pos (s.data.toList.drop pos)
      have ih := vld_is s f (pos + sz (s.data.toList.drop pos)) (by omega)
      rw [Lib.validD_step _ hne, vld_cons _ hne, decodeL_is]
      unfold Lib.idxFuncFrom
      rw [if_pos hp, decode_is]
      simp only
      rw [List.drop_drop, ← ih]
      by_cases hb : rn (s.data.toList.drop pos) = 65533 ∧ sz (s.data.toList.drop pos) = 1
      · rw [if_pos hb]
        have : bad (s.data.toList.drop pos) = true := by unfold bad; exact decide_eq_true hb
        rw [this]; rfl
      · rw [if_neg hb]
        have : bad (s.data.toList.drop pos) = false := by unfold bad; exact decide_eq_false hb
        rw [this]
        cases hc : ctl (rn (s.data.toList.drop pos)) with
        | true =>
          rw [if_pos rfl, decide_eq_false (show ¬ ((pos : Int) < 0) by omega)]
          simp
        | false =>
          rw [if_neg (by decide)]
          simp
    · have : s.data.toList.drop pos = [] := List.drop_of_length_le (by omega)
      rw [this, Lib.idxFuncFrom_end _ _ _ _ _ hp]
      rfl
theorem valid_is (s : ByteArray) : (Lib.validD s.data.toList && decide (Lib.idxFunc ctl true s < 0)) = vld s.data.toList := by
  have := vld_is s s.size 0 (by omega)
  rw [List.drop_zero] at this
  exact this

end Go.Proofs.YtjgialebelndmaaDoor.PF
