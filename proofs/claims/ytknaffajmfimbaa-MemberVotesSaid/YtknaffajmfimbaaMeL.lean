/- MemberMeets in plain lists. -/
import Derived.Test.YtknaffajmfimbaaPMx1
import Derived.Test.YtknaffajmfimbaaPlL
import Derived.Test.YtknaffajmfimbaaPAx1
namespace Go.Proofs.Ytknaffajmfimbaa.PMe
open Go.RowKit Go.Proofs.YtknaffajmfimbaaW.PrintWords Go.Proofs.YtknaffajmfimbaaW.PrintLast Go.Proofs.YtknaffajmfimbaaW.PrintMore
open Go.Proofs.Ytknaffajmfimbaa Go.Proofs.Ytknaffajmfimbaa.PL
open Go.Proofs.Ytknaffajmfimbaa.PW hiding right_is has_is right_loop index_loop
set_option linter.unusedVariables false
set_option linter.unusedSimpArgs false
set_option maxHeartbeats 4000000
set_option maxRecDepth 100000
theorem pa_index (ys : List Int) (x : Int) (hl : ys.length ≤ 9223372036854775806) : ∀ (n i : Nat) (k : Nat), i + n = ys.length → n < k → (∃ r, PA.slices_Index_int_int.l0 k ys x (ys.length : Int) (i : Int) = some r ∧ decide (r ≥ 0) = (ys.drop i).contains x)
  | 0, i, 0, _, hk => absurd hk (Nat.lt_irrefl _)
  | 0, i, k + 1, h, _ => by
    unfold PA.slices_Index_int_int.l0
    rw [if_neg (by omega), List.drop_of_length_le (by omega)]
    exact ⟨-1, rfl, by simp⟩
  | n + 1, i, 0, h, hk => by omega
  | n + 1, i, k + 1, h, hk => by
    have hi : i < ys.length := by omega
    have hd : ys.drop i = ys[i] :: ys.drop (i + 1) := List.drop_eq_getElem_cons hi
    have hr : rd ys (i : Int) = ys[i] := by simp [rd, hi]
    unfold PA.slices_Index_int_int.l0
    rw [if_pos (by omega), if_pos (by omega), if_pos (by omega), hr, hd, show wrap64 ((i : Int) + 1) = ((i + 1 : Nat) : Int) by unfold wrap64; omega]
    by_cases h1 : x = ys[i]
    · rw [if_pos h1]
      refine ⟨_, rfl, ?_⟩
      rw [h1, List.contains_cons, decide_eq_true (by omega)]
      simp
    · rw [if_neg h1]
      obtain ⟨r, h2, h3⟩ := pa_index ys x hl n (i + 1) k (by omega) (by omega)
      refine ⟨r, h2, ?_⟩
      rw [h3, List.contains_cons]
      have : (x == ys[i]) = false := by rw [beq_eq_false_iff_ne]; exact h1
      rw [this, Bool.false_or]
theorem pa_has (ys : List Int) (x : Int) (hl : ys.length ≤ 9223372036854775806) (k : Nat) (hk : ys.length < k) : PA.member_Has.f k ys x = some (ys.contains x) := by
  unfold PA.member_Has.f PA.slices_Contains_int_int.f PA.slices_Index_int_int.f
  obtain ⟨r, h1, h2⟩ := pa_index ys x hl ys.length 0 k (by omega) hk
  simp only [Int.natCast_zero] at h1
  rw [h1]
  simp only [Option.bind_some]
  rw [h2, List.drop_zero]
theorem cnt_one (a b : List Int) (n : Int) (h : ∀ i, i ≠ n → a.contains i = b.contains i) : ∀ m : Nat, cntFrom a b m ≤ 1 ∧ (n < 7 - (m : Int) → cntFrom a b m = 0)
  | 0 => ⟨by unfold cntFrom; omega, fun _ => rfl⟩
  | m + 1 => by
    have ih := cnt_one a b n h m
    unfold cntFrom
    by_cases e : 7 - ((m + 1 : Nat) : Int) = n
    · have h0 := ih.2 (by omega)
      rw [h0]
      refine ⟨by split <;> omega, fun hlt => by omega⟩
    · have hh := h _ e
      rw [hh]
      simp only [bne_self_eq_false, Bool.false_eq_true, if_false, Int.zero_add]
      exact ⟨ih.1, fun hlt => ih.2 (by omega)⟩
theorem step_near {a b : List Int} (n : Int) (ha : rightB a = true) (hb : rightB b = true) (h : ∀ i, i ≠ n → a.contains i = b.contains i) : stepB a b = true := by
  unfold stepB
  rw [ha, hb]
  have := (cnt_one a b n h 7).1
  simp; omega
theorem good_le {l : List Int} (h : good l) : l.length ≤ 7 := by
  have key : ∀ (l : List Int) (lo : Int), l.Pairwise (· < ·) → (∀ x ∈ l, lo ≤ x ∧ x < 7) → lo ≤ 7 → (l.length : Int) ≤ 7 - lo := by
    intro l
    induction l with
    | nil => intro lo _ _ h; simp; omega
    | cons x l ih =>
      intro lo hp hb hlo
      rw [List.pairwise_cons] at hp
      have hx := hb x List.mem_cons_self
      have := ih (x + 1) hp.2 (fun y hy => by have h1 := hp.1 y hy; have h2 := hb y (List.mem_cons_of_mem _ hy); omega) (by omega)
      simp only [List.length_cons, Int.natCast_add]
      omega
  have := key l 0 h.2.1 h.2.2 (by decide)
  omega
theorem good_ins {l : List Int} {n : Int} (h : good l) (hn : n ∉ l) (h0 : 0 ≤ n) (h7 : n < 7) : good (ins n l) :=
  ⟨fun e => by have := ins_length n l; rw [e] at this; simp at this, ins_sorted n l h.2.1 hn, fun x hx => by
    rcases (ins_mem n l x).1 hx with rfl | hx
    · exact ⟨h0, h7⟩
    · exact h.2.2 x hx⟩
theorem filter_ins {l : List Int} {n : Int} (hn : n ∉ l) : (ins n l).filter (fun x => !decide (x = n)) = l := by
  have key : ∀ l : List Int, n ∉ l → (ins n l).filter (fun x => !decide (x = n)) = l := by
    intro l
    induction l with
    | nil => intro _; simp [ins]
    | cons x l ih =>
      intro hn
      have hx : x ≠ n := fun e => hn (by rw [e]; exact List.mem_cons_self)
      have hl : n ∉ l := fun e => hn (List.mem_cons_of_mem _ e)
      have hf : l.filter (fun x => !decide (x = n)) = l := by
        rw [List.filter_eq_self]
        intro y hy
        have : y ≠ n := fun e => hl (by rw [← e]; exact hy)
        simp [this]
      unfold ins
      split
      · rw [List.filter_cons_of_neg (by simp), List.filter_cons_of_pos (by simp [hx]), hf]
      · rw [List.filter_cons_of_pos (by simp [hx]), ih hl]
  exact key l hn
theorem filter_mem {l : List Int} {n x : Int} : x ∈ l.filter (fun x => !decide (x = n)) ↔ x ∈ l ∧ x ≠ n := by
  rw [List.mem_filter]; simp
theorem sort_filter {l : List Int} {n : Int} (h : good l) (hn : n ∈ l) : sortL (l.filter (fun x => !decide (x = n)) ++ [n]) = l := by
  refine sort_of h.2.1 ?_
  have hnd : l.Nodup := h.2.1.imp (fun hlt e => by omega)
  have key : ∀ l : List Int, l.Nodup → n ∈ l → l.Perm (n :: l.filter (fun x => !decide (x = n))) := by
    intro l
    induction l with
    | nil => intro _ hn; cases hn
    | cons x l ih =>
      intro hd hn
      rw [List.nodup_cons] at hd
      by_cases e : x = n
      · subst e
        have hf : l.filter (fun y => !decide (y = x)) = l := by
          rw [List.filter_eq_self]
          intro y hy
          have : y ≠ x := fun e => hd.1 (by rw [← e]; exact hy)
          simp [this]
        rw [List.filter_cons_of_neg (by simp), hf]
      · rw [List.filter_cons_of_pos (by simp [e])]
        have hm : n ∈ l := by rcases List.mem_cons.1 hn with h | h; exact absurd h.symm e; exact h
        exact ((ih hd.2 hm).cons x).trans (List.Perm.swap n x _)
  exact (key l hnd hn).trans (List.perm_append_singleton n _).symm
theorem good_filter {l : List Int} {n : Int} (h : good l) (hne : l.filter (fun x => !decide (x = n)) ≠ []) : good (l.filter (fun x => !decide (x = n))) :=
  ⟨hne, h.2.1.filter _, fun x hx => h.2.2 x (filter_mem.1 hx).1⟩
theorem alone {l : List Int} {n : Int} (h : good l) (hn : n ∈ l) (he : l.filter (fun x => !decide (x = n)) = []) : l = [n] := by
  have hall : ∀ x ∈ l, x = n := by
    intro x hx
    rcases Decidable.em (x = n) with e | e
    · exact e
    · have hm := filter_mem.2 ⟨hx, e⟩
      rw [he] at hm
      cases hm
  match l, h, hn, hall with
  | [x], _, hn, _ => rw [List.mem_singleton.1 hn]
  | x :: y :: l, h, _, hall =>
    have h1 := hall x List.mem_cons_self
    have h2 := hall y (List.mem_cons_of_mem _ List.mem_cons_self)
    have h3 := (List.pairwise_cons.1 h.2.1).1 y List.mem_cons_self
    omega
theorem contains_eq {a b : List Int} {i : Int} (h : i ∈ a ↔ i ∈ b) : a.contains i = b.contains i := by
  rw [Bool.eq_iff_iff, List.contains_iff_mem, List.contains_iff_mem]; exact h

/-- Among what most of some say, counted. -/
def agreedB (l y : List Int) : Bool := decide (0 < l.length) && decide (l.length / 2 + 1 ≤ (l.filter (fun x => y.contains x)).length)
theorem agreed_loop (l y : List Int) (hl : l.length ≤ 1000000) (hy : y.length ≤ 1000000) : ∀ (n i c k : Nat), i + n = l.length → n + y.length + 1 < k → c ≤ i → PA.member_Agreed.l0 k l y (c : Int) l (l.length : Int) (i : Int) = some (decide (0 < l.length) && decide (l.length / 2 + 1 ≤ c + ((l.drop i).filter (fun x => y.contains x)).length))
  | _, _, _, 0, _, hk, _ => by omega
  | 0, i, c, k + 1, h, hk, hc => by
    unfold PA.member_Agreed.l0
    rw [if_neg (by omega), List.drop_of_length_le (by omega)]
    unfold PA.member_Most.f
    have e : wrap64 (wrap64 ((l.length : Int) / 2) + 1) = ((l.length / 2 + 1 : Nat) : Int) := by unfold wrap64; omega
    rw [e]
    by_cases h0 : (l.length : Int) > 0
    · rw [if_pos h0, Option.bind_some, decide_eq_true (show 0 < l.length by omega), Bool.true_and]
      congr 1
      rw [decide_eq_decide]
      simp only [List.filter_nil, List.length_nil]
      omega
    · rw [if_neg h0, decide_eq_false (show ¬ 0 < l.length by omega), Bool.false_and]
  | n + 1, i, c, k + 1, h, hk, hc => by
    have hi : i < l.length := by omega
    have hd : l.drop i = l[i] :: l.drop (i + 1) := List.drop_eq_getElem_cons hi
    have hr : rd l (i : Int) = l[i] := by simp [rd, hi]
    unfold PA.member_Agreed.l0
    rw [if_pos (by omega), if_pos (by omega), if_pos (by omega), hr, hd, pa_has y l[i] (by omega) k (by omega), Option.bind_some, show wrap64 ((i : Int) + 1) = ((i + 1 : Nat) : Int) by unfold wrap64; omega, show wrap64 ((c : Int) + 1) = ((c + 1 : Nat) : Int) by unfold wrap64; omega]
    cases hq : y.contains l[i] with
    | true =>
      rw [if_pos rfl, agreed_loop l y hl hy n (i + 1) (c + 1) k (by omega) (by omega) (by omega), List.filter_cons_of_pos hq, List.length_cons]
      rw [show c + 1 + ((l.drop (i + 1)).filter (fun x => y.contains x)).length = c + (((l.drop (i + 1)).filter (fun x => y.contains x)).length + 1) by omega]
    | false =>
      rw [if_neg (by decide), agreed_loop l y hl hy n (i + 1) c k (by omega) (by omega) (by omega), List.filter_cons_of_neg (by rw [hq]; decide)]
theorem agreed_is (l y : List Int) (hl : l.length ≤ 1000000) (hy : y.length ≤ 1000000) (k : Nat) (hk : l.length + y.length + 1 < k) : PA.member_Agreed.f k l y = some (agreedB l y) := by
  have h := agreed_loop l y hl hy l.length 0 0 k (by omega) hk (Nat.le_refl _)
  unfold PA.member_Agreed.f agreedB
  rw [List.drop_zero, Nat.zero_add] at h
  exact h
theorem both (p q : Int → Bool) : ∀ L : List Int, L.length < (L.filter p).length + (L.filter q).length → ∃ x ∈ L, p x = true ∧ q x = true
  | [], h => by simp at h
  | x :: L, h => by
    cases hp : p x with
    | true =>
      cases hq : q x with
      | true => exact ⟨x, List.mem_cons_self, hp, hq⟩
      | false =>
        rw [List.filter_cons_of_pos hp, List.filter_cons_of_neg (by rw [hq]; decide)] at h
        simp only [List.length_cons] at h
        obtain ⟨y, hy, h1⟩ := both p q L (by omega)
        exact ⟨y, List.mem_cons_of_mem _ hy, h1⟩
    | false =>
      rw [List.filter_cons_of_neg (by rw [hp]; decide)] at h
      have : ((x :: L).filter q).length ≤ (L.filter q).length + 1 := by
        cases hq : q x with
        | true => rw [List.filter_cons_of_pos hq]; exact Nat.le_refl _
        | false => rw [List.filter_cons_of_neg (by rw [hq]; decide)]; omega
      simp only [List.length_cons] at h
      obtain ⟨y, hy, h1⟩ := both p q L (by omega)
      exact ⟨y, List.mem_cons_of_mem _ hy, h1⟩
def Meets (l m y0 y1 : List Int) : Prop := stepB l m = true ∧ stepB m l = true ∧ (agreedB l y0 = true → agreedB m y1 = true → ∃ j : Nat, j < 7 ∧ l.contains (j : Int) = true ∧ m.contains (j : Int) = true ∧ y0.contains (j : Int) = true ∧ y1.contains (j : Int) = true)
theorem meets_of {l m y0 y1 : List Int} (hg : good l) (h : ∃ x ∈ l, x ∈ m ∧ y0.contains x = true ∧ y1.contains x = true) : ∃ j : Nat, j < 7 ∧ l.contains (j : Int) = true ∧ m.contains (j : Int) = true ∧ y0.contains (j : Int) = true ∧ y1.contains (j : Int) = true := by
  obtain ⟨x, h1, h2, h3, h4⟩ := h
  have := hg.2.2 x h1
  have e : ((x.toNat : Nat) : Int) = x := by omega
  exact ⟨x.toNat, by omega, by rw [e]; exact List.contains_iff_mem.2 h1, by rw [e]; exact List.contains_iff_mem.2 h2, by rw [e]; exact h3, by rw [e]; exact h4⟩
theorem agreed_le {l y : List Int} (h : agreedB l y = true) : l.length / 2 + 1 ≤ (l.filter (fun x => y.contains x)).length := by
  unfold agreedB at h
  rw [Bool.and_eq_true, decide_eq_true_iff, decide_eq_true_iff] at h
  exact h.2
theorem meets_same (l y0 y1 : List Int) (hg : good l) : Meets l l y0 y1 := by
  have hs := step_near 0 ((rightB_iff _).2 hg) ((rightB_iff _).2 hg) (fun _ _ => rfl)
  refine ⟨hs, hs, fun h0 h1 => meets_of hg ?_⟩
  have h2 := agreed_le h0
  have h3 := agreed_le h1
  obtain ⟨x, hx, hp, hq⟩ := both (fun x => y0.contains x) (fun x => y1.contains x) l (by omega)
  exact ⟨x, hx, hx, hp, hq⟩
theorem meets_ins (l y0 y1 : List Int) (n : Int) (hg : good l) (hn : n ∉ l) (hi : good (ins n l)) : Meets l (ins n l) y0 y1 ∧ Meets (ins n l) l y0 y1 := by
  have near : ∀ i, i ≠ n → l.contains i = (ins n l).contains i := fun i hj => contains_eq (by rw [ins_mem]; exact ⟨.inr, fun h => h.resolve_left hj⟩)
  have s1 := step_near n ((rightB_iff _).2 hg) ((rightB_iff _).2 hi) near
  have s2 := step_near n ((rightB_iff _).2 hi) ((rightB_iff _).2 hg) (fun i hj => (near i hj).symm)
  have key : ∀ a b : List Int, l.length / 2 + 1 ≤ (l.filter (fun x => a.contains x)).length → (l.length + 1) / 2 + 1 ≤ ((ins n l).filter (fun x => b.contains x)).length → ∃ x ∈ l, x ∈ ins n l ∧ a.contains x = true ∧ b.contains x = true := by
    intro a b ha hb
    have e1 : ((n :: l).filter (fun x => a.contains x && !decide (x = n))).length = (l.filter (fun x => a.contains x)).length := by
      rw [List.filter_cons_of_neg (by simp)]
      congr 1
      apply List.filter_congr
      intro x hx
      have : x ≠ n := fun e => hn (by rw [← e]; exact hx)
      simp [this]
    have e2 : ((n :: l).filter (fun x => b.contains x)).length = ((ins n l).filter (fun x => b.contains x)).length := ((ins_perm n l).symm.filter _).length_eq
    obtain ⟨x, hx, hp, hq⟩ := both (fun x => a.contains x && !decide (x = n)) (fun x => b.contains x) (n :: l) (by rw [e1, e2, List.length_cons]; omega)
    simp only [Bool.and_eq_true, Bool.not_eq_true', decide_eq_false_iff_not] at hp
    have hxl : x ∈ l := by rcases List.mem_cons.1 hx with h | h; exact absurd h hp.2; exact h
    exact ⟨x, hxl, (ins_mem n l x).2 (.inr hxl), hp.1, hq⟩
  refine ⟨⟨s1, s2, fun h0 h1 => meets_of hg ?_⟩, ⟨s2, s1, fun h0 h1 => meets_of hi ?_⟩⟩
  · have h2 := agreed_le h0
    have h3 := agreed_le h1
    rw [ins_length] at h3
    exact key y0 y1 h2 h3
  · have h2 := agreed_le h0
    have h3 := agreed_le h1
    rw [ins_length] at h2
    obtain ⟨x, a1, a2, a3, a4⟩ := key y1 y0 h3 h2
    exact ⟨x, a2, a1, a4, a3⟩
theorem ins_filter {l : List Int} {n : Int} (h : good l) (hn : n ∈ l) : ins n (l.filter (fun x => !decide (x = n))) = l := by
  rw [← sort_ins (h.2.1.filter _) (fun hh => (filter_mem.1 hh).2 rfl)]
  exact sort_filter h hn
theorem meets_all (l y0 y1 : List Int) (n : Int) (hg : good l) :
    ((withB l n).2 = true → Meets l (withB l n).1 y0 y1 ∧ (withB l n).1.length ≤ 8) ∧ ((withB l n).2 = false → (withoutB l n).2 = true → Meets l (withoutB l n).1 y0 y1 ∧ (withoutB l n).1.length ≤ 8) ∧ Meets l l y0 y1 := by
  refine ⟨fun h => ?_, fun _ h => ?_, meets_same l y0 y1 hg⟩
  · unfold withB at h ⊢
    by_cases hc : l.contains n = true
    · rw [if_pos hc] at h; cases h
    · rw [if_neg hc] at h ⊢
      have hn : n ∉ l := fun h => hc (List.contains_iff_mem.2 h)
      rw [sort_ins hg.2.1 hn] at h ⊢
      cases hr : rightB (ins n l) with
      | false => rw [hr, if_neg (by decide)] at h; cases h
      | true =>
        rw [if_pos rfl]
        refine ⟨(meets_ins l y0 y1 n hg hn ((rightB_iff _).1 hr)).1, ?_⟩
        have := good_le hg
        show (ins n l).length ≤ 8
        rw [ins_length]; omega
  · unfold withoutB at h ⊢
    by_cases hc : l.contains n = true
    · rw [if_pos hc] at h ⊢
      have hn : n ∈ l := List.contains_iff_mem.1 hc
      cases hr : rightB (l.filter (fun x => !decide (x = n))) with
      | false => rw [hr, if_neg (by decide)] at h; cases h
      | true =>
        rw [if_pos rfl]
        have hgf := (rightB_iff _).1 hr
        have hfn : n ∉ l.filter (fun x => !decide (x = n)) := fun hh => (filter_mem.1 hh).2 rfl
        have hi := ins_filter hg hn
        have hm := (meets_ins (l.filter (fun x => !decide (x = n))) y0 y1 n hgf hfn (by rw [hi]; exact hg)).2
        rw [hi] at hm
        refine ⟨hm, ?_⟩
        have := good_le hg
        have := List.length_filter_le (fun x => !decide (x = n)) l
        show (l.filter (fun x => !decide (x = n))).length ≤ 8
        omega
    · rw [if_neg hc] at h; cases h

end Go.Proofs.Ytknaffajmfimbaa.PMe
