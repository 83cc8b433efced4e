/- The plain law of MemberWalks. -/
import Derived.Test.YtknaffajmfimbaaPMx5
import Derived.Test.YtknaffajmfimbaaPlL
namespace Go.Proofs.Ytknaffajmfimbaa.Pure
open Go.RowKit Go.Proofs.YtknaffajmfimbaaW.PrintWords Go.Proofs.YtknaffajmfimbaaW.PrintLast Go.Proofs.YtknaffajmfimbaaW.PrintMore
open Go.Proofs.Ytknaffajmfimbaa Go.Proofs.Ytknaffajmfimbaa.PM Go.Proofs.Ytknaffajmfimbaa.PL
open Go.Proofs.Ytknaffajmfimbaa.PW hiding right_is has_is right_loop index_loop
set_option linter.unusedVariables false
set_option linter.unusedSimpArgs false
set_option maxHeartbeats 4000000
set_option maxRecDepth 100000

theorem cnt_one (a b : List Int) (n : Int) (h : ∀ i, i ≠ n → a.contains i = b.contains i) : ∀ m : Nat, cntFrom a b m ≤ 1 ∧ (n < 7 - (m : Int) → cntFrom a b m = 0)
  | 0 => ⟨by unfold cntFrom; omega, fun _ => rfl⟩
  | m + 1 => by
    have ih := cnt_one a b n h m
    unfold cntFrom
    by_cases e : 7 - ((m + 1 : Nat) : Int) = n
    · have h0 := ih.2 (by omega)
      rw [h0]
      refine ⟨by split <;> omega, fun hlt => by omega⟩
    · have hh := h _ e
      rw [hh]
      simp only [bne_self_eq_false, Bool.false_eq_true, if_false, Int.zero_add]
      exact ⟨ih.1, fun hlt => ih.2 (by omega)⟩
theorem step_near {a b : List Int} (n : Int) (ha : rightB a = true) (hb : rightB b = true) (h : ∀ i, i ≠ n → a.contains i = b.contains i) : stepB a b = true := by
  unfold stepB
  rw [ha, hb]
  have := (cnt_one a b n h 7).1
  simp; omega
theorem good_le {l : List Int} (h : good l) : l.length ≤ 7 := by
  have key : ∀ (l : List Int) (lo : Int), l.Pairwise (· < ·) → (∀ x ∈ l, lo ≤ x ∧ x < 7) → lo ≤ 7 → (l.length : Int) ≤ 7 - lo := by
    intro l
    induction l with
    | nil => intro lo _ _ h; simp; omega
    | cons x l ih =>
      intro lo hp hb hlo
      rw [List.pairwise_cons] at hp
      have hx := hb x List.mem_cons_self
      have := ih (x + 1) hp.2 (fun y hy => by have h1 := hp.1 y hy; have h2 := hb y (List.mem_cons_of_mem _ hy); omega) (by omega)
      simp only [List.length_cons, Int.natCast_add]
      omega
  have := key l 0 h.2.1 h.2.2 (by decide)
  omega
theorem good_ins {l : List Int} {n : Int} (h : good l) (hn : n ∉ l) (h0 : 0 ≤ n) (h7 : n < 7) : good (ins n l) :=
  ⟨fun e => by have := ins_length n l; rw [e] at this; simp at this, ins_sorted n l h.2.1 hn, fun x hx => by
    rcases (ins_mem n l x).1 hx with rfl | hx
    · exact ⟨h0, h7⟩
    · exact h.2.2 x hx⟩
theorem filter_ins {l : List Int} {n : Int} (hn : n ∉ l) : (ins n l).filter (fun x => !decide (x = n)) = l := by
  have key : ∀ l : List Int, n ∉ l → (ins n l).filter (fun x => !decide (x = n)) = l := by
    intro l
    induction l with
    | nil => intro _; simp [ins]
    | cons x l ih =>
      intro hn
      have hx : x ≠ n := fun e => hn (by rw [e]; exact List.mem_cons_self)
      have hl : n ∉ l := fun e => hn (List.mem_cons_of_mem _ e)
      have hf : l.filter (fun x => !decide (x = n)) = l := by
        rw [List.filter_eq_self]
        intro y hy
        have : y ≠ n := fun e => hl (by rw [← e]; exact hy)
        simp [this]
      unfold ins
      split
      · rw [List.filter_cons_of_neg (by simp), List.filter_cons_of_pos (by simp [hx]), hf]
      · rw [List.filter_cons_of_pos (by simp [hx]), ih hl]
  exact key l hn
theorem filter_mem {l : List Int} {n x : Int} : x ∈ l.filter (fun x => !decide (x = n)) ↔ x ∈ l ∧ x ≠ n := by
  rw [List.mem_filter]; simp
theorem sort_filter {l : List Int} {n : Int} (h : good l) (hn : n ∈ l) : sortL (l.filter (fun x => !decide (x = n)) ++ [n]) = l := by
  refine sort_of h.2.1 ?_
  have hnd : l.Nodup := h.2.1.imp (fun hlt e => by omega)
  have key : ∀ l : List Int, l.Nodup → n ∈ l → l.Perm (n :: l.filter (fun x => !decide (x = n))) := by
    intro l
    induction l with
    | nil => intro _ hn; cases hn
    | cons x l ih =>
      intro hd hn
      rw [List.nodup_cons] at hd
      by_cases e : x = n
      · subst e
        have hf : l.filter (fun y => !decide (y = x)) = l := by
          rw [List.filter_eq_self]
          intro y hy
          have : y ≠ x := fun e => hd.1 (by rw [← e]; exact hy)
          simp [this]
        rw [List.filter_cons_of_neg (by simp), hf]
      · rw [List.filter_cons_of_pos (by simp [e])]
        have hm : n ∈ l := by rcases List.mem_cons.1 hn with h | h; exact absurd h.symm e; exact h
        exact ((ih hd.2 hm).cons x).trans (List.Perm.swap n x _)
  exact (key l hnd hn).trans (List.perm_append_singleton n _).symm
theorem good_filter {l : List Int} {n : Int} (h : good l) (hne : l.filter (fun x => !decide (x = n)) ≠ []) : good (l.filter (fun x => !decide (x = n))) :=
  ⟨hne, h.2.1.filter _, fun x hx => h.2.2 x (filter_mem.1 hx).1⟩
theorem alone {l : List Int} {n : Int} (h : good l) (hn : n ∈ l) (he : l.filter (fun x => !decide (x = n)) = []) : l = [n] := by
  have hall : ∀ x ∈ l, x = n := by
    intro x hx
    rcases Decidable.em (x = n) with e | e
    · exact e
    · have hm := filter_mem.2 ⟨hx, e⟩
      rw [he] at hm
      cases hm
  match l, h, hn, hall with
  | [x], _, hn, _ => rw [List.mem_singleton.1 hn]
  | x :: y :: l, h, _, hall =>
    have h1 := hall x List.mem_cons_self
    have h2 := hall y (List.mem_cons_of_mem _ List.mem_cons_self)
    have h3 := (List.pairwise_cons.1 h.2.1).1 y List.mem_cons_self
    omega
theorem with_new {l : List Int} {n : Int} (h : good l) (hn : n ∉ l) (h0 : 0 ≤ n) (h7 : n < 7) : member_With.f l n = some (ins n l, true) := by
  unfold member_With.f withB
  have := good_le h
  rw [if_pos (by omega), if_neg (fun hc => hn (List.contains_iff_mem.1 hc)), sort_ins h.2.1 hn, if_pos ((rightB_iff _).2 (good_ins h hn h0 h7))]
theorem with_old {l : List Int} {n : Int} (h : good l) (hn : n ∈ l) : member_With.f l n = some ([], false) := by
  unfold member_With.f withB
  have := good_le h
  rw [if_pos (by omega), if_pos (List.contains_iff_mem.2 hn)]
theorem without_one {l : List Int} {n : Int} (h : good l) (hn : n ∈ l) (hne : l.filter (fun x => !decide (x = n)) ≠ []) : member_Without.f l n = some (l.filter (fun x => !decide (x = n)), true) := by
  unfold member_Without.f withoutB
  have := good_le h
  rw [if_pos (by omega), if_pos (List.contains_iff_mem.2 hn), if_pos ((rightB_iff _).2 (good_filter h hne))]
theorem without_last {l : List Int} {n : Int} (h : good l) (hn : n ∈ l) (he : l.filter (fun x => !decide (x = n)) = []) : member_Without.f l n = some ([], false) := by
  unfold member_Without.f withoutB
  have := good_le h
  rw [if_pos (by omega), if_pos (List.contains_iff_mem.2 hn), he, if_neg (by decide)]
theorem contains_eq {a b : List Int} {i : Int} (h : i ∈ a ↔ i ∈ b) : a.contains i = b.contains i := by
  rw [Bool.eq_iff_iff, List.contains_iff_mem, List.contains_iff_mem]; exact h
theorem turn_range (t : Int) : 0 ≤ wrap64 (Int.tmod (IntKind.u64.wrap t) 7) ∧ wrap64 (Int.tmod (IntKind.u64.wrap t) 7) < 7 := by
  have h0 : 0 ≤ IntKind.u64.wrap t := by rw [IntKind.wrap_u64]; omega
  have h1 := Int.tmod_nonneg 7 h0
  have h2 := Int.tmod_lt_of_pos (IntKind.u64.wrap t) (show (0 : Int) < 7 by decide)
  have e : wrap64 (Int.tmod (IntKind.u64.wrap t) 7) = Int.tmod (IntKind.u64.wrap t) 7 := by unfold wrap64; omega
  rw [e]; exact ⟨h1, h2⟩
theorem walks_loop (ts : List Int) : ∀ (n i : Nat) (now : List Int) (k : Nat), good now → i + n = ts.length → 2 * n + 100 < k → ts.length ≤ 9223372036854775806 → calepinlaw21_MemberWalks.l0 k now ts (ts.length : Int) (i : Int) = some true
  | _, _, _, 0, _, _, hk, _ => by omega
  | 0, i, now, k + 1, _, h, hk, _ => by rw [calepinlaw21_MemberWalks.l0, if_neg (by omega)]
  | n + 1, i, now, k + 1, hg, h, hk, hm => by
    rw [calepinlaw21_MemberWalks.l0, if_pos (by omega), if_pos (by omega), if_pos (by omega)]
    by_cases h30 : (i : Int) ≥ 30
    · rw [if_pos h30]
    rw [if_neg h30, show wrap64 ((i : Int) + 1) = ((i + 1 : Nat) : Int) by unfold wrap64; omega]
    obtain ⟨t0, t7⟩ := turn_range (rd ts (i : Int))
    generalize wrap64 (Int.tmod (IntKind.u64.wrap (rd ts (i : Int))) 7) = t at t0 t7 ⊢
    have hlen := good_le hg
    have j2 : ∀ nx : List Int, good nx → (∀ j, j ≠ t → now.contains j = nx.contains j) → now.contains t ≠ nx.contains t → calepinlaw21_MemberWalks.j2 k now t nx ts (ts.length : Int) (i : Int) = some true := by
      intro nx hx hj hd
      obtain ⟨k, rfl⟩ : ∃ j, k = j + 1 := ⟨k - 1, by omega⟩
      have hxl := good_le hx
      rw [calepinlaw21_MemberWalks.j2, right_is nx (by omega) k (by omega)]
      simp only [Option.bind_some]
      rw [if_pos ((rightB_iff _).2 hx), step_is now nx (by omega) (by omega) k (by omega)]
      simp only [Option.bind_some]
      rw [if_pos (step_near t ((rightB_iff _).2 hg) ((rightB_iff _).2 hx) hj), has_is now t (by omega) k (by omega), has_is nx t (by omega) k (by omega)]
      simp only [Option.bind_some]
      rw [if_neg (by simp only [beq_iff_eq]; exact hd), show wrap64 ((i : Int) + 1) = ((i + 1 : Nat) : Int) by unfold wrap64; omega]
      exact walks_loop ts n (i + 1) nx k hx (by omega) (by omega) hm
    by_cases hn : t ∈ now
    · rw [with_old hg hn]
      simp only [Option.bind_some, Bool.false_eq_true, if_false]
      by_cases he : now.filter (fun x => !decide (x = t)) = []
      · rw [without_last hg hn he, alone hg hn he]
        simp only [Option.bind_some, Bool.false_eq_true, if_false]
        rw [if_pos (by simp), if_pos (by simp), if_pos (by simp [rd])]
        exact walks_loop ts n (i + 1) [t] k (alone hg hn he ▸ hg) (by omega) (by omega) hm
      · have hgf := good_filter hg he
        have hfn : t ∉ now.filter (fun x => !decide (x = t)) := fun hh => (filter_mem.1 hh).2 rfl
        have hback : ins t (now.filter (fun x => !decide (x = t))) = now := by rw [← sort_ins hgf.2.1 hfn]; exact sort_filter hg hn
        rw [without_one hg hn he]
        simp only [Option.bind_some, if_true]
        rw [with_new hgf hfn t0 t7, hback]
        simp only [Option.bind_some, if_true]
        rw [same_is now (by omega) k (by omega)]
        simp only [Option.bind_some, if_true]
        refine j2 _ hgf (fun j hj => contains_eq (by rw [filter_mem]; exact ⟨fun h => ⟨h, hj⟩, fun h => h.1⟩)) ?_
        rw [List.contains_iff_mem.2 hn, Bool.eq_false_iff.2 (fun hc => hfn (List.contains_iff_mem.1 hc))]
        decide
    · have hgi := good_ins hg hn t0 t7
      have hti : t ∈ ins t now := (ins_mem t now t).2 (.inl rfl)
      rw [with_new hg hn t0 t7]
      simp only [Option.bind_some, if_true]
      rw [without_one hgi hti (by rw [filter_ins hn]; exact hg.1), filter_ins hn]
      simp only [Option.bind_some, if_true]
      rw [same_is now (by omega) k (by omega)]
      simp only [Option.bind_some, if_true]
      refine j2 _ hgi (fun j hj => contains_eq (by rw [ins_mem]; exact ⟨.inr, fun h => h.resolve_left hj⟩)) ?_
      rw [List.contains_iff_mem.2 hti, Bool.eq_false_iff.2 (fun hc => hn (List.contains_iff_mem.1 hc))]
      decide
theorem MemberWalks : calepinlaw21_MemberWalks.Pure := by
  intro l ts hl1 _ _ hl2 _ _
  refine ⟨2 * ts.length + l.length + 1000, ?_⟩
  unfold maxLen at hl1 hl2
  unfold calepinlaw21_MemberWalks.f
  rw [first_is _ (by omega)]
  simp only [Option.bind_some, if_true]
  by_cases hs : (l.length : Int) > 50
  · rw [if_pos hs]
    rw [calepinlaw21_MemberWalks.j0, if_pos rfl]
  · rw [if_neg hs, right_is l (by omega) _ (by omega)]
    simp only [Option.bind_some]
    cases hr : rightB l with
    | false => rw [calepinlaw21_MemberWalks.j0, if_pos (by decide)]
    | true =>
      rw [calepinlaw21_MemberWalks.j0, if_neg (by decide)]
      simp only [Option.bind_some]
      rw [if_pos (by simp; omega), List.nil_append]
      exact walks_loop ts ts.length 0 l _ ((rightB_iff l).1 hr) (by omega) (by omega) (by omega)

end Go.Proofs.Ytknaffajmfimbaa.Pure
