/- The plain law of MemberLists. -/
import Derived.Test.YtknaffajmfimbaaPMx4
import Derived.Test.YtknaffajmfimbaaPlL
namespace Go.Proofs.Ytknaffajmfimbaa.Pure
open Go.RowKit Go.Proofs.YtknaffajmfimbaaW.PrintWords Go.Proofs.YtknaffajmfimbaaW.PrintLast Go.Proofs.YtknaffajmfimbaaW.PrintMore
open Go.Proofs.Ytknaffajmfimbaa Go.Proofs.Ytknaffajmfimbaa.PM Go.Proofs.Ytknaffajmfimbaa.PL
open Go.Proofs.Ytknaffajmfimbaa.PW hiding right_is has_is right_loop index_loop
set_option linter.unusedVariables false
set_option linter.unusedSimpArgs false
set_option maxHeartbeats 4000000
set_option maxRecDepth 100000

theorem lists_l1 (l : List Int) (hl : l.length ≤ 1000) (y : List Int) : ∀ (n i : Nat) (x10 : List Int) (k : Nat), i + n = x10.length → n + l.length + 1 < k → x10.length ≤ 1000 → calepinlaw21_MemberLists.l1 k l l x10 (x10.length : Int) (i : Int) = some true
  | _, _, _, 0, _, hk, _ => by omega
  | 0, i, x10, k + 1, h, hk, hx => by
    rw [calepinlaw21_MemberLists.l1, if_neg (by omega), same_is l (by omega) k (by omega)]
    simp only [Option.bind_some, if_true]
    unfold member_Most.f
    simp
  | n + 1, i, x10, k + 1, h, hk, hx => by
    rw [calepinlaw21_MemberLists.l1, if_pos (by omega), if_pos (by omega), if_pos (by omega), show wrap64 ((i : Int) + 1) = ((i + 1 : Nat) : Int) by unfold wrap64; omega]
    have h2 := lists_l1 l hl y n (i + 1) (x10.set (i : Int).toNat 99) k (by rw [List.length_set]; omega) (by omega) (by rw [List.length_set]; omega)
    rw [List.length_set] at h2
    exact h2
theorem lists_l0 (l : List Int) (hl : l.length ≤ 1000) (x10 : List Int) (hx : x10.length ≤ 1000) : ∀ (n i : Nat) (x8 : List Int) (k : Nat), i + n = x8.length → n + x10.length + l.length + 2 < k → x8.length ≤ 1000 → calepinlaw21_MemberLists.l0 k l l x8 x10 (x8.length : Int) (i : Int) = some true
  | _, _, _, 0, _, hk, _ => by omega
  | 0, i, x8, k + 1, h, hk, h8 => by
    rw [calepinlaw21_MemberLists.l0, if_neg (by omega)]
    exact lists_l1 l hl [] x10.length 0 x10 k (by omega) (by omega) hx
  | n + 1, i, x8, k + 1, h, hk, h8 => by
    rw [calepinlaw21_MemberLists.l0, if_pos (by omega), if_pos (by omega), if_pos (by omega), show wrap64 ((i : Int) + 1) = ((i + 1 : Nat) : Int) by unfold wrap64; omega]
    have h2 := lists_l0 l hl x10 hx n (i + 1) (x8.set (i : Int).toNat 99) k (by rw [List.length_set]; omega) (by omega) (by rw [List.length_set]; omega)
    rw [List.length_set] at h2
    exact h2
theorem lists_j1 (l a b : List Int) (k : Nat) (hl : l.length ≤ 1000) (ha : a.length ≤ 1000) (hb : b.length ≤ 1000) (hk : 4000 < k) : calepinlaw21_MemberLists.j1 k l l a b false = some true := by
  obtain ⟨k, rfl⟩ : ∃ j, k = j + 1 := ⟨k - 1, by omega⟩
  rw [calepinlaw21_MemberLists.j1, if_neg (by decide)]
  exact lists_l0 l hl b hb a.length 0 a k (by omega) (by omega) ha
theorem lists_j0 (l a b c d : List Int) (x y w v : Bool) (k : Nat) (hl : l.length ≤ 1000) (ha : a.length ≤ 1000) (hb : b.length ≤ 1000) (hk : 5000 < k)
    (h1 : rightB l = true → x = w ∧ (w = true → a = c) ∧ (w = false → a = [])) (h2 : y = v ∧ (v = true → b = d) ∧ (v = false → b = [])) :
    calepinlaw21_MemberLists.j0 k l l a x b y c w d v false = some true := by
  obtain ⟨k, rfl⟩ : ∃ j, k = j + 1 := ⟨k - 1, by omega⟩
  have hj := lists_j1 l a b k hl ha hb (by omega)
  obtain ⟨rfl, h3, h4⟩ := h2
  have hsb : ∀ q : List Int, q.length ≤ 1000 → calepinlaw21_same.f k q q = some true := fun q hq => same_is q (by omega) k (by omega)
  rw [calepinlaw21_MemberLists.j0, if_neg (by decide), refRight_is l (by omega) k (by omega)]
  simp only [Option.bind_some, bne_self_eq_false, Bool.false_eq_true, if_false]
  have hB : (if y = true then ((calepinlaw21_same.f k b d).bind fun t => (if t = true then (calepinlaw21_MemberLists.j1 k l l a b false) else (calepinlaw21_MemberLists.j1 k l l a b true))) else (calepinlaw21_MemberLists.j1 k l l a b (decide ((b.length : Int) > 0)))) = some true := by
    cases y with
    | true => rw [if_pos rfl, ← h3 rfl, hsb b hb]; simp [hj]
    | false => rw [if_neg (by decide), h4 rfl]; have h5 := h4 rfl; subst h5; simpa using hj
  cases hr : rightB l with
  | false => simp only [Bool.false_eq_true, if_false]; exact hB
  | true =>
    obtain ⟨rfl, h5, h6⟩ := h1 hr
    simp only [if_true, bne_self_eq_false, Bool.false_eq_true, if_false]
    cases x with
    | true => rw [if_pos rfl, ← h5 rfl, hsb a ha]; simp only [Option.bind_some, if_true]; exact hB
    | false =>
      have h7 := h6 rfl
      rw [if_neg (by decide), if_neg (by rw [h7]; simp)]
      exact hB
theorem refStep_loop (a b : List Int) (ha : a.length ≤ 1000000) (hb : b.length ≤ 1000000) : ∀ (n : Nat) (i c : Int) (k : Nat), (n : Int) + i = 7 → n + a.length + b.length + 1 < k → 0 ≤ c → c + n ≤ 7 → 0 ≤ i → calepinref21_Step.l0 k a b c i = some (rightB a && rightB b && decide (c + cntFrom a b n < 2))
  | n, i, c, 0, _, hk, _, _, _ => by omega
  | 0, i, c, k + 1, h, hk, _, _, _ => by
    unfold calepinref21_Step.l0
    rw [if_neg (by omega), refRight_is a (by omega) k (by omega)]
    simp only [Option.bind_some, cntFrom, Int.add_zero]
    have e : decide (c ≤ 1) = decide (c < 2) := by rw [decide_eq_decide]; omega
    cases rightB a with
    | true =>
      rw [if_pos rfl, refRight_is b (by omega) k (by omega)]
      simp only [Option.bind_some]
      cases rightB b with
      | true => rw [if_pos rfl, e]; rfl
      | false => rfl
    | false => rfl
  | n + 1, i, c, k + 1, h, hk, h0, h7, hi => by
    unfold calepinref21_Step.l0
    rw [if_pos (by omega), refHas_is a i (by omega) k (by omega), refHas_is b i (by omega) k (by omega)]
    simp only [Option.bind_some]
    have e : 7 - ((n + 1 : Nat) : Int) = i := by omega
    have w1 : wrap64 (c + 1) = c + 1 := by unfold wrap64; omega
    have w2 : wrap64 (i + 1) = i + 1 := by unfold wrap64; omega
    unfold cntFrom
    rw [e, w1, w2]
    split
    · rw [refStep_loop a b ha hb n (i + 1) (c + 1) k (by omega) (by omega) (by omega) (by omega) (by omega), Int.add_assoc]
    · rw [refStep_loop a b ha hb n (i + 1) c k (by omega) (by omega) (by omega) (by omega) (by omega), Int.zero_add]
theorem refStep_is (a b : List Int) (ha : a.length ≤ 1000000) (hb : b.length ≤ 1000000) (k : Nat) (hk : 20 + a.length + b.length < k) : calepinref21_Step.f k a b = some (stepB a b) := by
  unfold calepinref21_Step.f stepB
  have h := refStep_loop a b ha hb 7 0 0 k (by decide) (by omega) (by decide) (by decide) (by decide)
  rw [Int.zero_add] at h
  exact h
theorem len_with (l : List Int) (n : Int) : (withB l n).1.length ≤ l.length + 1 := by
  unfold withB
  split
  · exact Nat.zero_le _
  · split
    · unfold sortL
      rw [(List.mergeSort_perm _ _).length_eq, List.length_append]
      exact Nat.le_refl _
    · exact Nat.zero_le _
theorem len_without (l : List Int) (n : Int) : (withoutB l n).1.length ≤ l.length := by
  unfold withoutB
  split
  · split
    · exact List.length_filter_le _ _
    · exact Nat.zero_le _
  · exact Nat.zero_le _
theorem with_ref (l : List Int) (n : Int) (hr : rightB l = true) : (withB l n).2 = (refWithB l n).2 ∧ ((refWithB l n).2 = true → (withB l n).1 = (refWithB l n).1) ∧ ((refWithB l n).2 = false → (withB l n).1 = []) := by
  have hg := (rightB_iff l).1 hr
  unfold withB refWithB
  by_cases hc : l.contains n = true
  · rw [if_pos hc, if_pos hc]; exact ⟨rfl, fun h => (by cases h), fun _ => rfl⟩
  · rw [if_neg hc, if_neg hc]
    have hn : n ∉ l := fun h => hc (List.contains_iff_mem.2 h)
    rw [sort_ins hg.2.1 hn]
    cases hq : rightB (ins n l) with
    | true => rw [if_pos rfl]; exact ⟨rfl, fun _ => rfl, fun h => (by cases h)⟩
    | false => rw [if_neg (by decide)]; exact ⟨rfl, fun h => (by cases h), fun _ => rfl⟩
theorem without_ref (l : List Int) (n : Int) : (withoutB l n).2 = (l.contains n && rightB (l.filter (fun y => !decide (y = n)))) ∧ ((l.contains n && rightB (l.filter (fun y => !decide (y = n)))) = true → (withoutB l n).1 = l.filter (fun y => !decide (y = n))) ∧ ((l.contains n && rightB (l.filter (fun y => !decide (y = n)))) = false → (withoutB l n).1 = []) := by
  unfold withoutB
  cases l.contains n with
  | true =>
    rw [if_pos rfl]
    cases hq : rightB (l.filter (fun x => !decide (x = n))) with
    | true => rw [if_pos rfl]; exact ⟨rfl, fun _ => rfl, fun h => (by cases h)⟩
    | false => rw [if_neg (by decide)]; exact ⟨rfl, fun h => (by cases h), fun _ => rfl⟩
  | false => rw [if_neg (by decide)]; exact ⟨rfl, fun h => (by cases h), fun _ => rfl⟩
theorem MemberLists : calepinlaw21_MemberLists.Pure := by
  intro l m n h1 h1' _ h2 h2' _ _
  clear h1 h2
  obtain ⟨K, hK⟩ : ∃ K, K = 6000 := ⟨_, rfl⟩
  refine ⟨K, ?_⟩
  unfold calepinlaw21_MemberLists.f
  rw [first_is K (by omega), Option.bind_some, if_pos rfl]
  have hw : wrap64 ((l.length : Int) + (m.length : Int)) = (l.length : Int) + (m.length : Int) := by
    unfold wrap64
    omega
  rw [hw]
  by_cases hs : (l.length : Int) + (m.length : Int) > 100
  · rw [if_pos hs]
  rw [if_neg hs, Option.bind_some, if_pos (by rw [List.length_nil]; omega), Option.bind_some, List.nil_append]
  have e1 : member_With.f l n = some (withB l n) := by unfold member_With.f; rw [if_pos (by omega)]
  have e2 : member_Without.f l n = some (withoutB l n) := by unfold member_Without.f; rw [if_pos (by omega)]
  rw [e1, Option.bind_some, e2, Option.bind_some, refWith_is l n (by omega) K (by omega), Option.bind_some, refWithout_is l n (by omega) K (by omega), Option.bind_some, same_is l (by omega) K (by omega), Option.bind_some, if_pos rfl,
    right_is l (by omega) K (by omega), Option.bind_some, refRight_is l (by omega) K (by omega), Option.bind_some, if_neg (by rw [bne_self_eq_false]; decide), has_is l n (by omega) K (by omega), Option.bind_some, refHas_is l n (by omega) K (by omega), Option.bind_some, if_neg (by rw [bne_self_eq_false]; decide),
    step_is l m (by omega) (by omega) K (by omega), Option.bind_some, refStep_is l m (by omega) (by omega) K (by omega), Option.bind_some, bne_self_eq_false]
  exact lists_j0 l (withB l n).1 (withoutB l n).1 (refWithB l n).1 _ (withB l n).2 (withoutB l n).2 (refWithB l n).2 _ K (by omega) (by have := len_with l n; omega) (by have := len_without l n; omega) (by omega) (with_ref l n) (without_ref l n)

end Go.Proofs.Ytknaffajmfimbaa.Pure
