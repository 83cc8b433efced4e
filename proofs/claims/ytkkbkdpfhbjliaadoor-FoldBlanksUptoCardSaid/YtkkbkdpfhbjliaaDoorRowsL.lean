/- Folded texts in plain lists: rows, lines, folding, and that what is folded is unfolded again. -/
import Derived.Lib.DecodeN
namespace Go.Proofs.YtkkbkdpfhbjliaaDoor.PF
set_option linter.unusedVariables false
set_option linter.unusedSimpArgs false
set_option maxRecDepth 100000

/-- A row without the byte 13 at its end. -/
def strip (r : List UInt8) : List UInt8 := if r.getLast? = some 13 then r.dropLast else r
def blank (b : UInt8) : Bool := b == 32 || b == 9
/-- A row is put to the lines. -/
def put (out : List (List UInt8)) (r : List UInt8) : Option (List (List UInt8)) :=
  match r with
  | [] => none
  | b :: t => if 13 ∈ b :: t then none else if blank b then (match out.getLast? with | none => none | some x => some (out.dropLast ++ [x ++ t])) else some (out ++ [b :: t])
def putAll : List (List UInt8) → List (List UInt8) → Option (List (List UInt8))
  | out, [] => some out
  | out, r :: rs => (put out r).bind fun o => putAll o rs
/-- The rows of a text, each ended by the byte 10. -/
def rowsOf (cur : List UInt8) : List UInt8 → Option (List (List UInt8))
  | [] => if cur = [] then some [] else none
  | b :: l => if b = 10 then (rowsOf [] l).map (strip cur :: ·) else rowsOf (cur ++ [b]) l
/-- The lines of a text. -/
def unf (cur : List UInt8) (out : List (List UInt8)) : List UInt8 → Option (List (List UInt8))
  | [] => if cur = [] then some out else none
  | b :: l => if b = 10 then (put out (strip cur)).bind fun o => unf [] o l else unf (cur ++ [b]) out l
def unfold (t : List UInt8) : Option (List (List UInt8)) := unf [] [] t
def good (l : List UInt8) : Bool := match l with
  | [] => false
  | b :: t => !blank b && !(b :: t).any fun c => c == 13 || c == 10
theorem unf_rows : ∀ (l cur : List UInt8) (out : List (List UInt8)), unf cur out l = (rowsOf cur l).bind (putAll out)
  | [], cur, out => by
    unfold unf rowsOf
    split
    · rfl
    · rfl
  | b :: l, cur, out => by
    unfold unf rowsOf
    split
    · cases hr : rowsOf [] l with
      | none =>
        have : ∀ o, unf [] o l = none := fun o => by rw [unf_rows l [] o, hr]; rfl
        rw [show (fun o => unf [] o l) = fun _ => none from funext this]
        cases put out (strip cur) <;> rfl
      | some rs =>
        have : ∀ o, unf [] o l = putAll o rs := fun o => by rw [unf_rows l [] o, hr]; rfl
        rw [show (fun o => unf [] o l) = fun o => putAll o rs from funext this]
        rfl
    · exact unf_rows l (cur ++ [b]) out
theorem unf_app : ∀ (r cur : List UInt8) (out : List (List UInt8)) (l : List UInt8), 10 ∉ r → unf cur out (r ++ l) = unf (cur ++ r) out l
  | [], cur, out, l, _ => by simp
  | b :: r, cur, out, l, h => by
    rw [List.cons_append]
    conv => lhs; unfold unf
    rw [if_neg (fun e : b = 10 => h (by rw [e]; exact List.mem_cons_self)), unf_app r (cur ++ [b]) out l (fun e => h (List.mem_cons_of_mem _ e)), List.append_assoc, List.singleton_append]
theorem unf_ten (cur : List UInt8) (out : List (List UInt8)) (l : List UInt8) : unf cur out (10 :: l) = (put out (strip cur)).bind fun o => unf [] o l := by
  conv => lhs; unfold unf
  rw [if_pos rfl]
theorem unf_row (r : List UInt8) (out : List (List UInt8)) (l : List UInt8) (h : 10 ∉ r) : unf [] out (r ++ 10 :: l) = (put out (strip r)).bind fun o => unf [] o l := by
  rw [unf_app r [] out _ h, List.nil_append, unf_ten]
theorem unf_open (r : List UInt8) (out : List (List UInt8)) (h : 10 ∉ r) (hr : r ≠ []) : unf [] out r = none := by
  have := unf_app r [] out [] h
  rw [List.append_nil, List.nil_append] at this
  rw [this]
  unfold unf
  rw [if_neg hr]
theorem strip_cr (r : List UInt8) : strip (r ++ [13]) = r := by unfold strip; simp
theorem strip_no (r : List UInt8) (h : 13 ∉ r) : strip r = r := by
  unfold strip
  rw [if_neg]
  intro e
  exact h (List.mem_of_getLast? e)
/-- The lines are grown by what stands in the row, whatever it is. -/
def Holds (out : List (List UInt8)) (cur : List UInt8) (o : List (List UInt8)) (y : List UInt8) : Prop :=
  ∀ t, 13 ∉ t → put out (cur ++ t) = some (o ++ [y ++ t])
theorem Holds.more {out cur o y} (h : Holds out cur o y) (c : List UInt8) (hc : 13 ∉ c) : Holds out (cur ++ c) o (y ++ c) := fun t ht => by
  rw [List.append_assoc, h (c ++ t) (by simp [hc, ht]), List.append_assoc]
theorem holds_start (out : List (List UInt8)) (b : UInt8) (c : List UInt8) (hb : blank b = false) (hc : 13 ∉ b :: c) : Holds out (b :: c) out (b :: c) := fun t ht => by
  have : 13 ∉ b :: (c ++ t) := by simp at hc ⊢; exact ⟨hc.1, hc.2, ht⟩
  show put out (b :: (c ++ t)) = _
  unfold put
  simp only
  rw [if_neg this, if_neg (by rw [hb]; decide)]
  rfl
theorem holds_on (o : List (List UInt8)) (y : List UInt8) (b : UInt8) (hb : blank b = true) (hb2 : b ≠ 13) : Holds (o ++ [y]) [b] o y := fun t ht => by
  have : 13 ∉ b :: t := by simp; exact ⟨fun e => hb2 e.symm, ht⟩
  show put (o ++ [y]) (b :: t) = _
  unfold put
  simp only
  rw [if_neg this, if_pos hb, List.getLast?_concat, List.dropLast_concat]
theorem Holds.now {out cur o y} (h : Holds out cur o y) : put out cur = some (o ++ [y]) := by
  have := h [] (by simp)
  simpa using this
/-- What every line of an unfolded text is. -/
theorem good_cons (b : UInt8) (t : List UInt8) : good (b :: t) = true ↔ blank b = false ∧ 13 ∉ b :: t ∧ 10 ∉ b :: t := by
  unfold good
  simp only [Bool.and_eq_true, Bool.not_eq_true', List.any_eq_false, Bool.or_eq_true, beq_iff_eq]
  constructor
  · rintro ⟨h1, h2⟩
    exact ⟨h1, fun e => h2 13 e (.inl rfl), fun e => h2 10 e (.inr rfl)⟩
  · rintro ⟨h1, h2, h3⟩
    refine ⟨h1, fun c hc => ?_⟩
    rintro (rfl | rfl)
    · exact h2 hc
    · exact h3 hc
theorem good_app (l t : List UInt8) (h : good l = true) (h1 : 13 ∉ t) (h2 : 10 ∉ t) : good (l ++ t) = true := by
  cases l with
  | nil => cases h
  | cons b l =>
    rw [good_cons] at h
    rw [List.cons_append, good_cons]
    refine ⟨h.1, ?_, ?_⟩
    · have := h.2.1; simp at this ⊢; exact ⟨this.1, this.2, h1⟩
    · have := h.2.2; simp at this ⊢; exact ⟨this.1, this.2, h2⟩
theorem put_good (out : List (List UInt8)) (r : List UInt8) (o : List (List UInt8)) (h : put out r = some o) (ho : ∀ l ∈ out, good l = true) (hr : 10 ∉ r) : ∀ l ∈ o, good l = true := by
  cases r with
  | nil => cases h
  | cons b t =>
    unfold put at h
    simp only at h
    by_cases c1 : 13 ∈ b :: t
    · rw [if_pos c1] at h; cases h
    · rw [if_neg c1] at h
      by_cases c2 : blank b = true
      · rw [if_pos c2] at h
        cases hg : out.getLast? with
        | none => rw [hg] at h; cases h
        | some x =>
          rw [hg] at h
          injection h with h
          subst h
          intro l hl
          rw [List.mem_append] at hl
          rcases hl with hl | hl
          · exact ho l (List.dropLast_subset _ hl)
          · rw [List.mem_singleton] at hl
            subst hl
            exact good_app x t (ho x (List.mem_of_getLast? hg)) (fun e => c1 (List.mem_cons_of_mem _ e)) (fun e => hr (List.mem_cons_of_mem _ e))
      · rw [if_neg c2] at h
        injection h with h
        subst h
        intro l hl
        rw [List.mem_append] at hl
        rcases hl with hl | hl
        · exact ho l hl
        · rw [List.mem_singleton] at hl
          subst hl
          rw [good_cons]
          exact ⟨by simpa using c2, c1, hr⟩
theorem ten_strip (r : List UInt8) (h : 10 ∉ r) : 10 ∉ strip r := by
  unfold strip
  split
  · exact fun e => h (List.dropLast_subset _ e)
  · exact h
theorem unf_good : ∀ (l cur : List UInt8) (out o : List (List UInt8)), unf cur out l = some o → (∀ x ∈ out, good x = true) → 10 ∉ cur → ∀ x ∈ o, good x = true
  | [], cur, out, o, h, ho, hc => by
    unfold unf at h
    split at h
    · injection h with h; subst h; exact ho
    · cases h
  | b :: l, cur, out, o, h, ho, hc => by
    unfold unf at h
    by_cases c1 : b = 10
    · rw [if_pos c1] at h
      obtain ⟨o1, h1, h2⟩ := Option.bind_eq_some_iff.1 h
      exact unf_good l [] o1 o h2 (put_good out _ o1 h1 ho (ten_strip cur hc)) (by simp)
    · rw [if_neg c1] at h
      exact unf_good l (cur ++ [b]) out o h ho (by simp; exact ⟨hc, fun e => c1 e.symm⟩)
/-! ### folding -/
/-- The pieces of a line, put to rows: chars, the room in the row, is it the row's first? -/
def go : List (List UInt8) → Nat → Bool → List UInt8
  | [], _, _ => []
  | c :: cs, room, first => if room < c.length ∧ first = false then 13 :: 10 :: 32 :: (c ++ go cs (74 - c.length) false) else c ++ go cs (room - c.length) false
theorem unf_go : ∀ (cs : List (List UInt8)) (room : Nat) (first : Bool) (out : List (List UInt8)) (cur : List UInt8) (o : List (List UInt8)) (y rest : List UInt8), Holds out cur o y → 13 ∉ cur → (∀ c ∈ cs, 13 ∉ c ∧ 10 ∉ c) →
    unf cur out (go cs room first ++ 13 :: 10 :: rest) = unf [] (o ++ [y ++ cs.flatten]) rest
  | [], room, first, out, cur, o, y, rest, h, h13, hc => by
    unfold go
    rw [List.nil_append, List.flatten_nil, List.append_nil]
    have : unf cur out (13 :: 10 :: rest) = unf cur out ([13] ++ 10 :: rest) := rfl
    rw [this, unf_app [13] cur out _ (by decide), unf_ten, strip_cr, h.now]
    rfl
  | c :: cs, room, first, out, cur, o, y, rest, h, h13, hc => by
    have hc0 := hc c List.mem_cons_self
    have hcs : ∀ c ∈ cs, 13 ∉ c ∧ 10 ∉ c := fun x hx => hc x (List.mem_cons_of_mem _ hx)
    unfold go
    split
    · have e : (13 :: 10 :: 32 :: (c ++ go cs (74 - c.length) false)) ++ 13 :: 10 :: rest = [13] ++ 10 :: (32 :: c ++ (go cs (74 - c.length) false ++ 13 :: 10 :: rest)) := by simp
      rw [e, unf_app [13] cur out _ (by decide), unf_ten, strip_cr, h.now, Option.bind_some, unf_app (32 :: c) [] _ _ (by simp; exact hc0.2), List.nil_append]
      have h2 := (holds_on o y 32 (by decide) (by decide)).more c hc0.1
      rw [unf_go cs _ false (o ++ [y]) (32 :: c) o (y ++ c) rest h2 (by simp; exact hc0.1) hcs]
      simp
    · rw [List.append_assoc, unf_app c cur out _ hc0.2, unf_go cs _ false out (cur ++ c) o (y ++ c) rest (h.more c hc0.1) (by simp; exact ⟨h13, hc0.1⟩) hcs]
      simp
/-- A good line, folded, is unfolded to itself, whatever follows. -/
theorem unf_line (cs : List (List UInt8)) (out : List (List UInt8)) (rest : List UInt8) (hg : good cs.flatten = true) (hne : ∀ c ∈ cs, c ≠ []) :
    unf [] out (go cs 75 true ++ 13 :: 10 :: rest) = unf [] (out ++ [cs.flatten]) rest := by
  cases cs with
  | nil => cases hg
  | cons c cs =>
    cases c with
    | nil => exact absurd rfl (hne [] List.mem_cons_self)
    | cons b t =>
      have hall : ∀ x ∈ (b :: t) :: cs, 13 ∉ x ∧ 10 ∉ x := by
        intro x hx
        rw [List.flatten_cons, List.cons_append] at hg
        rw [good_cons] at hg
        have sub : ∀ y ∈ x, y ∈ b :: (t ++ cs.flatten) := fun y hy => by
          have := List.mem_flatten.2 ⟨x, hx, hy⟩
          simpa using this
        exact ⟨fun e => hg.2.1 (sub _ e), fun e => hg.2.2 (sub _ e)⟩
      have h0 := hall _ List.mem_cons_self
      have hcs : ∀ x ∈ cs, 13 ∉ x ∧ 10 ∉ x := fun x hx => hall x (List.mem_cons_of_mem _ hx)
      have hb : blank b = false := by rw [List.flatten_cons, List.cons_append, good_cons] at hg; exact hg.1
      unfold go
      rw [if_neg (by simp), List.append_assoc, unf_app (b :: t) [] out _ h0.2, List.nil_append]
      rw [unf_go cs _ false out (b :: t) out (b :: t) rest (holds_start out b t hb h0.1) h0.1 hcs]
      simp
/-- Lines, each in its characters, folded. -/
def foldAll : List (List (List UInt8)) → List UInt8
  | [] => []
  | cs :: ls => go cs 75 true ++ 13 :: 10 :: foldAll ls
theorem unf_all : ∀ (ls : List (List (List UInt8))) (out : List (List UInt8)), (∀ cs ∈ ls, good cs.flatten = true ∧ ∀ c ∈ cs, c ≠ []) → unf [] out (foldAll ls) = some (out ++ ls.map List.flatten)
  | [], out, _ => by unfold foldAll unf; rw [if_pos rfl]; simp
  | cs :: ls, out, h => by
    have h0 := h cs List.mem_cons_self
    unfold foldAll
    rw [unf_line cs out _ h0.1 h0.2, unf_all ls _ (fun x hx => h x (List.mem_cons_of_mem _ hx))]
    simp

end Go.Proofs.YtkkbkdpfhbjliaaDoor.PF
