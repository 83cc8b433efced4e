/- The document's answers and the plain lists. -/
import Derived.Test.YtknaffajmfimbaaPMx1
import Derived.Test.YtknaffajmfimbaaPMx3
namespace Go.Proofs.Ytknaffajmfimbaa.PL
open Go.RowKit Go.Proofs.YtknaffajmfimbaaW.PrintWords Go.Proofs.YtknaffajmfimbaaW.PrintLast Go.Proofs.YtknaffajmfimbaaW.PrintMore
open Go.Proofs.Ytknaffajmfimbaa Go.Proofs.Ytknaffajmfimbaa.PW Go.Proofs.Ytknaffajmfimbaa.PM
set_option linter.unusedVariables false
set_option linter.unusedSimpArgs false
set_option maxHeartbeats 4000000
set_option maxRecDepth 100000

def good (l : List Int) : Prop := l ≠ [] ∧ l.Pairwise (· < ·) ∧ ∀ x ∈ l, 0 ≤ x ∧ x < 7
theorem rightGo_iff : ∀ (l : List Int) (last : Int), rightGo last l = true ↔ (∀ x ∈ l, last < x ∧ x < 7) ∧ l.Pairwise (· < ·)
  | [], last => by simp [rightGo]
  | n :: l, last => by
    unfold rightGo
    by_cases h1 : n ≤ last
    · rw [if_pos h1]; constructor
      · intro h; cases h
      · rintro ⟨h, _⟩; have := (h n List.mem_cons_self).1; omega
    · rw [if_neg h1]
      by_cases h2 : n ≥ 7
      · rw [if_pos h2]; constructor
        · intro h; cases h
        · rintro ⟨h, _⟩; have := (h n List.mem_cons_self).2; omega
      · rw [if_neg h2, rightGo_iff l n, List.pairwise_cons]
        constructor
        · rintro ⟨h, hp⟩
          refine ⟨fun x hx => ?_, fun x hx => (h x hx).1, hp⟩
          rcases List.mem_cons.1 hx with rfl | hx
          · omega
          · have := h x hx; omega
        · rintro ⟨h, hp, hq⟩
          exact ⟨fun x hx => ⟨hp x hx, (h x (List.mem_cons_of_mem _ hx)).2⟩, hq⟩
theorem rightB_iff (l : List Int) : rightB l = true ↔ good l := by
  unfold rightB good
  rw [Bool.and_eq_true, rightGo_iff, decide_eq_true_iff]
  constructor
  · rintro ⟨⟨h1, h2⟩, h3⟩
    exact ⟨fun h => by rw [h] at h3; exact absurd h3 (by decide), h2, fun x hx => by have := h1 x hx; omega⟩
  · rintro ⟨h1, h2, h3⟩
    exact ⟨⟨fun x hx => by have := h3 x hx; omega, h2⟩, List.length_pos_iff.2 h1⟩
theorem sort_of {l m : List Int} (h : m.Pairwise (· < ·)) (hp : m.Perm l) : sortL l = m := by
  unfold sortL
  refine List.Perm.eq_of_pairwise (le := fun x y => x ≤ y) (fun a b _ _ h1 h2 => Int.le_antisymm h1 h2) ?_ (h.imp Int.le_of_lt) ((List.mergeSort_perm _ _).trans hp.symm)
  have := List.pairwise_mergeSort (le := fun x y : Int => decide (x ≤ y)) (by intro a b c h1 h2; simp at *; omega) (by intro a b; simp; omega) l
  exact this.imp (by simp)
def ins (n : Int) : List Int → List Int
  | [] => [n]
  | x :: l => if n < x then n :: x :: l else x :: ins n l
theorem ins_perm (n : Int) : ∀ l : List Int, (ins n l).Perm (n :: l)
  | [] => List.Perm.refl _
  | x :: l => by
    unfold ins
    split
    · exact List.Perm.refl _
    · exact ((ins_perm n l).cons x).trans (List.Perm.swap n x l)
theorem ins_perm' (n : Int) (l : List Int) : (ins n l).Perm (l ++ [n]) := (ins_perm n l).trans (List.perm_append_singleton n l).symm
theorem ins_mem (n : Int) (l : List Int) (x : Int) : x ∈ ins n l ↔ x = n ∨ x ∈ l := by rw [(ins_perm n l).mem_iff, List.mem_cons]
theorem ins_sorted (n : Int) : ∀ l : List Int, l.Pairwise (· < ·) → n ∉ l → (ins n l).Pairwise (· < ·)
  | [], _, _ => by simp [ins]
  | x :: l, h, hn => by
    rw [List.pairwise_cons] at h
    have hx : n ≠ x := fun e => hn (by rw [e]; exact List.mem_cons_self)
    unfold ins
    split
    · rename_i hl
      rw [List.pairwise_cons, List.pairwise_cons]
      refine ⟨fun y hy => ?_, h⟩
      rcases List.mem_cons.1 hy with rfl | hy
      · exact hl
      · have := h.1 y hy; omega
    · rename_i hl
      rw [List.pairwise_cons]
      refine ⟨fun y hy => ?_, ins_sorted n l h.2 (fun hm => hn (List.mem_cons_of_mem _ hm))⟩
      rcases (ins_mem n l y).1 hy with rfl | hy
      · omega
      · exact h.1 y hy
theorem ins_length (n : Int) (l : List Int) : (ins n l).length = l.length + 1 := by rw [(ins_perm n l).length_eq]; rfl
theorem sort_ins {n : Int} {l : List Int} (h : l.Pairwise (· < ·)) (hn : n ∉ l) : sortL (l ++ [n]) = ins n l := sort_of (ins_sorted n l h hn) (ins_perm' n l)
theorem right_loop (ys : List Int) (hl : ys.length ≤ 9223372036854775806) : ∀ (n i : Nat) (last : Int) (k : Nat), i + n = ys.length → n < k → member_Right.l0 k ys last ys (ys.length : Int) (i : Int) = some (rightGo last (ys.drop i) && decide (0 < ys.length))
  | 0, i, last, 0, _, hk => absurd hk (Nat.lt_irrefl _)
  | 0, i, last, k + 1, h, _ => by
    unfold member_Right.l0
    rw [if_neg (by omega), List.drop_of_length_le (by omega)]
    simp [rightGo]
  | n + 1, i, last, 0, h, hk => by omega
  | n + 1, i, last, k + 1, h, hk => by
    have hi : i < ys.length := by omega
    have hd : ys.drop i = ys[i] :: ys.drop (i + 1) := List.drop_eq_getElem_cons hi
    have hr : rd ys (i : Int) = ys[i] := by simp [rd, hi]
    unfold member_Right.l0
    rw [if_pos (by omega), if_pos (by omega), if_pos (by omega), hr, hd, show wrap64 ((i : Int) + 1) = ((i + 1 : Nat) : Int) by unfold wrap64; omega]
    simp only [rightGo]
    by_cases h1 : ys[i] ≤ last
    · rw [if_pos h1, if_pos h1]; rfl
    · rw [if_neg h1, if_neg h1]
      by_cases h2 : ys[i] ≥ 7
      · rw [if_pos h2, if_pos h2]; rfl
      · rw [if_neg h2, if_neg h2]
        exact right_loop ys hl n (i + 1) ys[i] k (by omega) (by omega)
theorem right_is (ys : List Int) (hl : ys.length ≤ 9223372036854775806) (k : Nat) (hk : ys.length < k) : member_Right.f k ys = some (rightB ys) := by
  unfold member_Right.f
  exact right_loop ys hl ys.length 0 (-1) k (by omega) hk
theorem index_loop (ys : List Int) (x : Int) (hl : ys.length ≤ 9223372036854775806) : ∀ (n i : Nat) (k : Nat), i + n = ys.length → n < k → (∃ r, slices_Index_int_int.l0 k ys x (ys.length : Int) (i : Int) = some r ∧ decide (r ≥ 0) = (ys.drop i).contains x)
  | 0, i, 0, _, hk => absurd hk (Nat.lt_irrefl _)
  | 0, i, k + 1, h, _ => by
    unfold slices_Index_int_int.l0
    rw [if_neg (by omega), List.drop_of_length_le (by omega)]
    exact ⟨-1, rfl, by simp⟩
  | n + 1, i, 0, h, hk => by omega
  | n + 1, i, k + 1, h, hk => by
    have hi : i < ys.length := by omega
    have hd : ys.drop i = ys[i] :: ys.drop (i + 1) := List.drop_eq_getElem_cons hi
    have hr : rd ys (i : Int) = ys[i] := by simp [rd, hi]
    unfold slices_Index_int_int.l0
    rw [if_pos (by omega), if_pos (by omega), if_pos (by omega), hr, hd, show wrap64 ((i : Int) + 1) = ((i + 1 : Nat) : Int) by unfold wrap64; omega]
    by_cases h1 : x = ys[i]
    · rw [if_pos h1]
      refine ⟨_, rfl, ?_⟩
      rw [h1, List.contains_cons, decide_eq_true (by omega)]
      simp
    · rw [if_neg h1]
      obtain ⟨r, h2, h3⟩ := index_loop ys x hl n (i + 1) k (by omega) (by omega)
      refine ⟨r, h2, ?_⟩
      rw [h3, List.contains_cons]
      have : (x == ys[i]) = false := by rw [beq_eq_false_iff_ne]; exact h1
      rw [this, Bool.false_or]
theorem has_is (ys : List Int) (x : Int) (hl : ys.length ≤ 9223372036854775806) (k : Nat) (hk : ys.length < k) : member_Has.f k ys x = some (ys.contains x) := by
  unfold member_Has.f slices_Contains_int_int.f slices_Index_int_int.f
  obtain ⟨r, h1, h2⟩ := index_loop ys x hl ys.length 0 k (by omega) hk
  simp only [Int.natCast_zero] at h1
  rw [h1]
  simp only [Option.bind_some]
  rw [h2, List.drop_zero]
theorem refRight_loop (ys : List Int) (hl : ys.length ≤ 9223372036854775806) : ∀ (n i : Nat) (last : Int) (k : Nat), i + n = ys.length → n < k → (i = 0 → last = -1) → (∀ j, i = j + 1 → last = rd ys (j : Int) ∧ 0 ≤ last) → calepinref21_Right.l0 k ys ys (ys.length : Int) (i : Int) = some (rightGo last (ys.drop i) && decide (0 < ys.length))
  | 0, i, last, 0, _, hk, _, _ => absurd hk (Nat.lt_irrefl _)
  | 0, i, last, k + 1, h, _, _, _ => by
    unfold calepinref21_Right.l0
    rw [if_neg (by omega), List.drop_of_length_le (by omega)]
    simp [rightGo]
  | n + 1, i, last, 0, h, hk, _, _ => by omega
  | n + 1, i, last, k + 1, h, hk, ha, hb => by
    have hi : i < ys.length := by omega
    have hd : ys.drop i = ys[i] :: ys.drop (i + 1) := List.drop_eq_getElem_cons hi
    have hr : rd ys (i : Int) = ys[i] := by simp [rd, hi]
    unfold calepinref21_Right.l0
    rw [if_pos (by omega), if_pos (by omega), if_pos (by omega), hr, hd, show wrap64 ((i : Int) + 1) = ((i + 1 : Nat) : Int) by unfold wrap64; omega]
    simp only [rightGo]
    have hnext : ¬ ys[i] < 0 → calepinref21_Right.l0 k ys ys (ys.length : Int) ((i + 1 : Nat) : Int) = some (rightGo ys[i] (ys.drop (i + 1)) && decide (0 < ys.length)) := fun h0 =>
      refRight_loop ys hl n (i + 1) ys[i] k (by omega) (by omega) (fun h => by omega) (fun j hj => ⟨by rw [show j = i by omega, hr], by omega⟩)
    by_cases h1 : ys[i] < 0
    · rw [if_pos h1]
      have h2 : ys[i] ≤ last := by
        cases i with
        | zero => have := ha rfl; omega
        | succ j => have := (hb j rfl).2; omega
      rw [if_pos h2]; rfl
    · rw [if_neg h1]
      by_cases h2 : ys[i] > 6
      · rw [if_pos h2]
        by_cases h3 : ys[i] ≤ last
        · rw [if_pos h3]; rfl
        · rw [if_neg h3, if_pos (by omega)]; rfl
      · rw [if_neg h2]
        cases i with
        | zero =>
          rw [if_neg (by omega), hnext h1, if_neg (by have := ha rfl; omega), if_neg (by omega)]
        | succ j =>
          obtain ⟨e1, e2⟩ := hb j rfl
          have hw : wrap64 (((j + 1 : Nat) : Int) - 1) = (j : Int) := by unfold wrap64; omega
          rw [if_pos (by omega), hw, if_pos (by omega), if_pos (by omega), ← e1]
          by_cases h3 : last ≥ ys[j + 1]
          · rw [if_pos h3, if_pos h3]; rfl
          · rw [if_neg h3, if_neg h3, if_neg (by omega), hnext h1]
theorem refRight_is (ys : List Int) (hl : ys.length ≤ 9223372036854775806) (k : Nat) (hk : ys.length < k) : calepinref21_Right.f k ys = some (rightB ys) := by
  unfold calepinref21_Right.f
  exact refRight_loop ys hl ys.length 0 (-1) k (by omega) hk (fun _ => rfl) (fun j hj => by omega)
theorem refHas_loop (ys : List Int) (x : Int) (hl : ys.length ≤ 9223372036854775806) : ∀ (n i : Nat) (k : Nat), i + n = ys.length → n < k → calepinref21_Has.l0 k x ys (ys.length : Int) (i : Int) = some ((ys.drop i).contains x)
  | 0, i, 0, _, hk => absurd hk (Nat.lt_irrefl _)
  | 0, i, k + 1, h, _ => by
    unfold calepinref21_Has.l0
    rw [if_neg (by omega), List.drop_of_length_le (by omega)]
    simp
  | n + 1, i, 0, h, hk => by omega
  | n + 1, i, k + 1, h, hk => by
    have hi : i < ys.length := by omega
    have hd : ys.drop i = ys[i] :: ys.drop (i + 1) := List.drop_eq_getElem_cons hi
    have hr : rd ys (i : Int) = ys[i] := by simp [rd, hi]
    unfold calepinref21_Has.l0
    rw [if_pos (by omega), if_pos (by omega), if_pos (by omega), hr, hd, show wrap64 ((i : Int) + 1) = ((i + 1 : Nat) : Int) by unfold wrap64; omega, List.contains_cons]
    by_cases h1 : ys[i] = x
    · rw [if_pos h1, h1]; simp
    · rw [if_neg h1, refHas_loop ys x hl n (i + 1) k (by omega) (by omega)]
      have : (x == ys[i]) = false := by rw [beq_eq_false_iff_ne]; exact fun e => h1 e.symm
      rw [this, Bool.false_or]
theorem refHas_is (ys : List Int) (x : Int) (hl : ys.length ≤ 9223372036854775806) (k : Nat) (hk : ys.length < k) : calepinref21_Has.f k ys x = some (ys.contains x) := by
  unfold calepinref21_Has.f
  exact refHas_loop ys x hl ys.length 0 k (by omega) hk
theorem same_loop (ys : List Int) (hl : ys.length ≤ 9223372036854775806) : ∀ (n i : Nat) (k : Nat), i + n = ys.length → n < k → calepinlaw21_same.l0 k ys ys (ys.length : Int) (i : Int) = some true
  | 0, i, 0, _, hk => absurd hk (Nat.lt_irrefl _)
  | 0, i, k + 1, h, _ => by
    unfold calepinlaw21_same.l0
    rw [if_neg (by omega)]
  | n + 1, i, 0, h, hk => by omega
  | n + 1, i, k + 1, h, hk => by
    unfold calepinlaw21_same.l0
    rw [if_pos (by omega), if_pos (by omega), if_pos (by omega), if_pos (by omega), if_pos rfl, show wrap64 ((i : Int) + 1) = ((i + 1 : Nat) : Int) by unfold wrap64; omega]
    exact same_loop ys hl n (i + 1) k (by omega) (by omega)
theorem same_is (ys : List Int) (hl : ys.length ≤ 9223372036854775806) (k : Nat) (hk : ys.length < k) : calepinlaw21_same.f k ys ys = some true := by
  unfold calepinlaw21_same.f
  rw [if_pos rfl]
  exact same_loop ys hl ys.length 0 k (by omega) hk
def refWithB (l : List Int) (n : Int) : List Int × Bool := if l.contains n = true then ([], false) else (ins n l, rightB (ins n l))
theorem refWith_loop (ys : List Int) (x : Int) (hl : ys.length ≤ 1000000) : ∀ (n i : Nat) (out : List Int) (done : Bool) (k : Nat), i + n = ys.length → 3 * n + out.length + 3 < k → out.length + 2 * n ≤ 2000000 →
    calepinref21_With.l0 k x out done ys (ys.length : Int) (i : Int) = (let o := out ++ (if done = true then ys.drop i else ins x (ys.drop i)); some (o, rightB o))
  | 0, i, out, done, 0, _, hk, _ => by omega
  | 0, i, out, done, k + 1, h, hk, hm => by
    unfold calepinref21_With.l0
    rw [if_neg (by omega), List.drop_of_length_le (by omega)]
    cases done with
    | true =>
      rw [if_pos rfl, if_pos rfl, List.append_nil, refRight_is out (by omega) k (by omega)]; rfl
    | false =>
      simp only [Bool.false_eq_true, if_false]
      rw [if_pos (by omega)]
      simp only [Option.bind_some]
      rw [refRight_is (out ++ [x]) (by simp; omega) k (by simp; omega)]; rfl
  | n + 1, i, out, done, 0, h, hk, _ => by omega
  | n + 1, i, out, done, k + 1, h, hk, hm => by
    have hi : i < ys.length := by omega
    have hd : ys.drop i = ys[i] :: ys.drop (i + 1) := List.drop_eq_getElem_cons hi
    have hr : rd ys (i : Int) = ys[i] := by simp [rd, hi]
    unfold calepinref21_With.l0
    rw [if_pos (by omega), if_pos (by omega), if_pos (by omega), hr, hd, show wrap64 ((i : Int) + 1) = ((i + 1 : Nat) : Int) by unfold wrap64; omega]
    cases done with
    | true =>
      rw [if_pos rfl, if_pos (by omega), refWith_loop ys x hl n (i + 1) (out ++ [ys[i]]) true k (by omega) (by simp; omega) (by simp; omega)]
      simp
    | false =>
      simp only [Bool.false_eq_true, if_false, ins]
      by_cases h1 : x < ys[i]
      · rw [if_pos h1, if_pos h1, if_pos (by omega)]
        simp only [Option.bind_some]
        rw [if_pos (by simp; omega), refWith_loop ys x hl n (i + 1) (out ++ [x] ++ [ys[i]]) true k (by omega) (by simp; omega) (by simp; omega)]
        simp
      · rw [if_neg h1, if_neg h1, if_pos (by omega), refWith_loop ys x hl n (i + 1) (out ++ [ys[i]]) false k (by omega) (by simp; omega) (by simp; omega)]
        simp
theorem refWith_is (ys : List Int) (x : Int) (hl : ys.length ≤ 1000000) (k : Nat) (hk : 3 * ys.length + 3 < k) : calepinref21_With.f k ys x = some (refWithB ys x) := by
  unfold calepinref21_With.f refWithB
  rw [refHas_is ys x (by omega) k (by omega)]
  simp only [Option.bind_some]
  split
  · rfl
  · have h := refWith_loop ys x hl ys.length 0 [] false k (by omega) (by simp; omega) (by simp; omega)
    simp at h
    rw [h]
theorem refWithout_loop (ys : List Int) (x : Int) (hl : ys.length ≤ 1000000) : ∀ (n i : Nat) (out : List Int) (k : Nat), i + n = ys.length → n + out.length + n + ys.length + 3 < k → out.length + n ≤ 1000000 →
    calepinref21_Without.l0 k ys x out ys (ys.length : Int) (i : Int) = (let o := out ++ (ys.drop i).filter (fun y => !decide (y = x)); some (o, ys.contains x && rightB o))
  | 0, i, out, 0, _, hk, _ => by omega
  | 0, i, out, k + 1, h, hk, hm => by
    unfold calepinref21_Without.l0
    rw [if_neg (by omega), List.drop_of_length_le (by omega), refHas_is ys x (by omega) k (by omega)]
    simp only [Option.bind_some, List.filter_nil, List.append_nil]
    cases ys.contains x with
    | true => rw [if_pos rfl, refRight_is out (by omega) k (by omega)]; rfl
    | false => rw [if_neg (by decide)]; rfl
  | n + 1, i, out, 0, h, hk, _ => by omega
  | n + 1, i, out, k + 1, h, hk, hm => by
    have hi : i < ys.length := by omega
    have hd : ys.drop i = ys[i] :: ys.drop (i + 1) := List.drop_eq_getElem_cons hi
    have hr : rd ys (i : Int) = ys[i] := by simp [rd, hi]
    unfold calepinref21_Without.l0
    rw [if_pos (by omega), if_pos (by omega), if_pos (by omega), hr, hd, show wrap64 ((i : Int) + 1) = ((i + 1 : Nat) : Int) by unfold wrap64; omega]
    by_cases h1 : ys[i] = x
    · rw [if_pos h1, refWithout_loop ys x hl n (i + 1) out k (by omega) (by omega) (by omega), List.filter_cons_of_neg (by simp [h1])]
    · rw [if_neg h1, if_pos (by omega), refWithout_loop ys x hl n (i + 1) (out ++ [ys[i]]) k (by omega) (by simp; omega) (by simp; omega), List.filter_cons_of_pos (by simp [h1])]
      simp
theorem refWithout_is (ys : List Int) (x : Int) (hl : ys.length ≤ 1000000) (k : Nat) (hk : 3 * ys.length + 3 < k) : calepinref21_Without.f k ys x = some (ys.filter (fun y => !decide (y = x)), ys.contains x && rightB (ys.filter (fun y => !decide (y = x)))) := by
  unfold calepinref21_Without.f
  have h := refWithout_loop ys x hl ys.length 0 [] k (by omega) (by simp; omega) (by simp; omega)
  simp only [Int.natCast_zero, List.nil_append, List.drop_zero] at h
  rw [h]
def cntFrom (a b : List Int) : Nat → Int
  | 0 => 0
  | n + 1 => (if (a.contains (7 - ((n + 1 : Nat) : Int)) != b.contains (7 - ((n + 1 : Nat) : Int))) = true then 1 else 0) + cntFrom a b n
theorem cnt_le (a b : List Int) : ∀ n, 0 ≤ cntFrom a b n ∧ cntFrom a b n ≤ n
  | 0 => ⟨Int.le_refl _, Int.le_refl _⟩
  | n + 1 => by
    have := cnt_le a b n
    unfold cntFrom
    split <;> omega
theorem step_loop (a b : List Int) (ha : a.length ≤ 1000000) (hb : b.length ≤ 1000000) : ∀ (n : Nat) (i c : Int) (k : Nat), (n : Int) + i = 7 → n + a.length + b.length + 1 < k → 0 ≤ c → c + n ≤ 7 → 0 ≤ i → member_Step.l0 k a b c i = some (decide (c + cntFrom a b n < 2))
  | n, i, c, 0, _, hk, _, _, _ => by omega
  | 0, i, c, k + 1, h, hk, _, _, _ => by
    unfold member_Step.l0
    rw [if_neg (by omega)]
    simp [cntFrom]
  | n + 1, i, c, k + 1, h, hk, h0, h7, hi => by
    unfold member_Step.l0
    rw [if_pos (by omega), has_is a i (by omega) k (by omega), has_is b i (by omega) k (by omega)]
    simp only [Option.bind_some]
    have e : 7 - ((n + 1 : Nat) : Int) = i := by omega
    have w1 : wrap64 (c + 1) = c + 1 := by unfold wrap64; omega
    have w2 : wrap64 (i + 1) = i + 1 := by unfold wrap64; omega
    unfold cntFrom
    rw [e, w1, w2]
    split
    · rw [step_loop a b ha hb n (i + 1) (c + 1) k (by omega) (by omega) (by omega) (by omega) (by omega), Int.add_assoc]
    · rw [step_loop a b ha hb n (i + 1) c k (by omega) (by omega) (by omega) (by omega) (by omega), Int.zero_add]
def stepB (a b : List Int) : Bool := rightB a && rightB b && decide (cntFrom a b 7 < 2)
theorem step_is (a b : List Int) (ha : a.length ≤ 1000000) (hb : b.length ≤ 1000000) (k : Nat) (hk : 20 + a.length + b.length < k) : member_Step.f k a b = some (stepB a b) := by
  obtain ⟨k, rfl⟩ : ∃ j, k = j + 1 := ⟨k - 1, by omega⟩
  unfold member_Step.f stepB
  rw [right_is a (by omega) _ (by omega)]
  simp only [Option.bind_some]
  have hl := step_loop a b ha hb 7 0 0 k (by decide) (by omega) (by decide) (by decide) (by decide)
  simp only [Int.zero_add] at hl
  cases rightB a with
  | true =>
    rw [if_pos rfl, right_is b (by omega) _ (by omega)]
    simp only [Option.bind_some]
    cases rightB b with
    | true => rw [member_Step.j0, if_neg (by decide), hl]; rfl
    | false => rw [member_Step.j0, if_pos (by decide)]; rfl
  | false =>
    rw [if_neg (by decide)]
    rw [member_Step.j0, if_pos rfl]; rfl
theorem first_is (k : Nat) (hk : 50 < k) : calepinlaw21_first.f k = some true := by
  unfold calepinlaw21_first.f member_With.f member_Without.f
  have e1 : withB [0, 2] 1 = ([0, 1, 2], true) := by
    unfold withB
    rw [if_neg (by decide), sort_ins (by decide) (by decide)]
    decide
  have e2 : withoutB [0] 0 = ([], false) := by decide
  rw [if_pos (by decide), if_pos (by decide), e1, e2]
  simp only [Option.bind_some]
  have e3 : member_Most.f [0, 1, 2, 3] = some 3 := by unfold member_Most.f wrap64; simp
  have e4 : stepB [0, 1] [0, 2] = false := by decide
  have e5 := step_is [0, 1] [0, 2] (by decide) (by decide) k (by simp; omega)
  rw [e4] at e5
  rw [e3, e5]
  simp [rd]

end Go.Proofs.Ytknaffajmfimbaa.PL
