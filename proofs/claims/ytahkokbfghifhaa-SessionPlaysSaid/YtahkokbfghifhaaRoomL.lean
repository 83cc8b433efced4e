/- The plain law of SessionRoom. -/
import Derived.Test.YtahkokbfghifhaaLateL
import Derived.Test.YtahkokbfghifhaaProg
import Derived.Below
import Derived.Deep.Draws
import Derived.Deep.AppendLies
import Derived.Maps.AppendAt
import Derived.OwnWalk
import Derived.Laws.BytesArg
import Derived.Laws.MakeOwn
import Derived.Laws.OwnMore
import Derived.Deep.OwnRows
import Derived.Tactics
import Derived.Lib.ConvBytes
import Derived.Laws.Slices
import Derived.WalkKit
import Derived.KernelRfl
import Derived.RowKit3
import Derived.Deep.LoopGhost
import Derived.Deep.QuietTactic
import Derived.BigQuiet
import Derived.WideLaws
import Derived.Deep.DeepCutAuto
import Derived.Deep.CutBlock
import Derived.Deep.RegionHeld3
import Derived.Laws.Rows
import Derived.Lib.AppendStr
import Derived.ArgAppend
import Derived.Laws.IdiomCopy
import Derived.OrdersHeld
import Derived.Laws.BitsLemmas
import Derived.RowKit
import Derived.Test.YtahkokbfghifhaaWWords
import Derived.Test.YtahkokbfghifhaaWLast
import Derived.Test.YtahkokbfghifhaaWTab
import Derived.Test.YtahkokbfghifhaaWFour
import Derived.Test.YtahkokbfghifhaaWQPut
import Derived.Test.YtahkokbfghifhaaWApart
import Derived.Test.YtahkokbfghifhaaWArr
import Derived.Test.YtahkokbfghifhaaWZeros
import Derived.Test.YtahkokbfghifhaaWFoot
import Derived.Test.YtahkokbfghifhaaWKept
import Derived.Test.YtahkokbfghifhaaWShare
import Derived.Test.YtahkokbfghifhaaWN
import Derived.Test.YtahkokbfghifhaaWFootNe
import Derived.Test.YtahkokbfghifhaaWAt
import Derived.Test.YtahkokbfghifhaaWEqStruct
import Derived.Test.YtahkokbfghifhaaWRepsOne
import Derived.Test.YtahkokbfghifhaaWInv
import Derived.Test.YtahkokbfghifhaaWInvWords
import Derived.Test.YtahkokbfghifhaaWGuard
import Derived.Test.YtahkokbfghifhaaWNEv
import Derived.Test.YtahkokbfghifhaaWMore
namespace Go.Proofs.Ytahkokbfghifhaa.PS
open Go.RowKit Go.Proofs.YtahkokbfghifhaaW.PrintWords Go.Proofs.YtahkokbfghifhaaW.PrintLast Go.Proofs.YtahkokbfghifhaaW.PrintMore
set_option linter.unusedVariables false
set_option linter.unusedSimpArgs false
set_option maxHeartbeats 4000000
set_option maxRecDepth 100000

theorem minFrom_leS : ∀ (r : List S55) (m : S55), (∀ x, x = m ∨ x ∈ r → ltrS x (minFromS m r) = false) ∧ (minFromS m r = m ∨ minFromS m r ∈ r)
  | [], m => ⟨(fun x hx => by
      rcases hx with rfl | hx
      · show ltrS x x = false
        unfold ltrS
        simp only [decide_eq_false_iff_not, ordv_lt]
        omega
      · cases hx), Or.inl rfl⟩
  | y :: r, m => by
    obtain ⟨h1, h2⟩ := minFrom_leS r (if ltrS y m then y else m)
    show (∀ x, x = m ∨ x ∈ y :: r → ltrS x (minFromS (if ltrS y m then y else m) r) = false) ∧ (minFromS (if ltrS y m then y else m) r = m ∨ minFromS (if ltrS y m then y else m) r ∈ y :: r)
    generalize minFromS (if ltrS y m then y else m) r = M at h1 h2 ⊢
    have hq := h1 _ (.inl rfl)
    have key : ltrS y M = false ∧ ltrS m M = false := by
      by_cases hc : ltrS y m = true
      · rw [if_pos hc] at hq
        unfold ltrS at hq hc ⊢
        simp only [decide_eq_false_iff_not, decide_eq_true_eq, ordv_lt] at hq hc ⊢
        omega
      · rw [if_neg hc] at hq
        unfold ltrS at hq hc ⊢
        simp only [decide_eq_false_iff_not, decide_eq_true_eq, ordv_lt] at hq hc ⊢
        omega
    refine ⟨fun x hx => ?_, ?_⟩
    · rcases hx with rfl | hx
      · exact key.2
      · rcases List.mem_cons.1 hx with rfl | hx
        · exact key.1
        · exact h1 x (.inr hx)
    · rcases h2 with h | h
      · rw [h]
        split
        · exact .inr (List.mem_cons_self ..)
        · exact .inl rfl
      · exact .inr (List.mem_cons_of_mem _ h)
theorem least_leS (es : List S55) (h : 0 < es.length) : ∀ x ∈ es, ltrS x (leastS es) = false := by
  intro x hx
  have := (minFrom_leS (es.drop 1) (rd_T55 es 0)).1 x
  refine this ?_
  cases es with
  | nil => cases hx
  | cons a l =>
    rcases List.mem_cons.1 hx with rfl | hx
    · exact .inl rfl
    · exact .inr hx
/-- Eight sessions, and when each was used last. -/
structure R8 (es : List S55) (la : List Int) (now : Int) : Prop where
  len : es.length = 8
  lla : la.length = 9
  row : ∀ j : Nat, j < 8 → (rd_T55 es (j : Int)).f0 = (j : Int) + 1 ∧ (rd_T55 es (j : Int)).f2 = la.getD (j + 1) 0 ∧ (rd_T55 es (j : Int)).f1 ≤ now ∧ la.getD (j + 1) 0 ≤ now
theorem rd_getS (es : List S55) (j : Nat) (h : j < es.length) : rd_T55 es (j : Int) = es[j] := by simp [rd_T55, h]
theorem R8.mem {es : List S55} {la : List Int} {now : Int} (h : R8 es la now) {x : S55} (hx : x ∈ es) : ∃ j : Nat, j < 8 ∧ x = rd_T55 es (j : Int) := by
  obtain ⟨j, hj, rfl⟩ := List.getElem_of_mem hx
  exact ⟨j, by rw [h.len] at hj; exact hj, (rd_getS es j hj).symm⟩
theorem R8.idx {es : List S55} {la : List Int} {now : Int} (h : R8 es la now) (k : Nat) (h1 : 1 ≤ k) (h8 : k ≤ 8) : idxS (fun r => decide (r.f0 = (k : Int))) es = ((k - 1 : Nat) : Int) := by
  have : es.findIdx? (fun r => decide (r.f0 = (k : Int))) = some (k - 1) := by
    rw [List.findIdx?_eq_some_iff_getElem]
    have hl : k - 1 < es.length := by rw [h.len]; omega
    refine ⟨hl, ?_, fun j hj => ?_⟩
    · rw [← rd_getS es (k - 1) hl, (h.row (k - 1) (by omega)).1]
      exact decide_eq_true (by omega)
    · have hjl : j < es.length := by omega
      rw [← rd_getS es j hjl, (h.row j (by omega)).1]
      simp; omega
  simp [idxS, this]
theorem R8.done {es : List S55} {la : List Int} {now : Int} (h : R8 es la now) (k : Nat) (h1 : 1 ≤ k) (h8 : k ≤ 8) : doneS es k (now + 1) (now + 1) ByteArray.empty = (true, es.set (k - 1) ⟨k, now + 1, now + 1, ByteArray.empty⟩) ∧ R8 (es.set (k - 1) ⟨k, now + 1, now + 1, ByteArray.empty⟩) (la.set k (now + 1)) (now + 1) := by
  have hi := h.idx k h1 h8
  have hr := h.row (k - 1) (by omega)
  have ha : (askS es k (now + 1)).1 = 1 := by
    unfold askS
    simp only [hi]
    rw [if_neg (by omega), if_pos (by omega)]
  have hl : es.any (fun r => decide (r.f2 > now + 1)) = false := by
    rw [List.any_eq_false]
    intro x hx
    obtain ⟨j, hj, rfl⟩ := h.mem hx
    have := h.row j hj
    simp; omega
  refine ⟨?_, ⟨by rw [List.length_set]; exact h.len, by rw [List.length_set]; exact h.lla, fun j hj => ?_⟩⟩
  · unfold doneS
    rw [if_pos ⟨ha, hl⟩, hi, Int.toNat_natCast]
  · have hq := h.row j hj
    have hjl : j < (es.set (k - 1) ⟨k, now + 1, now + 1, ByteArray.empty⟩).length := by rw [List.length_set, h.len]; exact hj
    have hjl2 : j < es.length := by rw [h.len]; exact hj
    rw [rd_getS _ j hjl, List.getElem_set]
    have hla : (la.set k (now + 1)).getD (j + 1) 0 = if k = j + 1 then now + 1 else la.getD (j + 1) 0 := by
      have hjla : j + 1 < la.length := by rw [h.lla]; omega
      rw [List.getD_eq_getElem?_getD, List.getElem?_set, List.getD_eq_getElem?_getD]
      by_cases e : k = j + 1
      · rw [if_pos e, if_pos e, if_pos (by omega)]; rfl
      · rw [if_neg e, if_neg e]
    rw [hla]
    by_cases e : k = j + 1
    · subst e
      rw [if_pos (by omega), if_pos rfl]
      exact ⟨by show ((j + 1 : Nat) : Int) = _; omega, rfl, Int.le_refl _, Int.le_refl _⟩
    · rw [if_neg (by omega), if_neg e, ← rd_getS es j hjl2]
      exact ⟨hq.1, hq.2.1, by omega, by omega⟩
/-- What eight sessions are, when a ninth is opened. -/
def after (es : List S55) (t : Int) : List S55 := es.filter (fun x => !decide (x.f0 = (leastS es).f0)) ++ [⟨t, 0, t, ByteArray.empty⟩]
theorem R8.opened {es : List S55} {la : List Int} {now : Int} (h : R8 es la now) (h8 : 8 ≤ now) : openLS es (now + 1) = (true, after es (now + 1)) := by
  unfold openLS
  have : openNoS es (now + 1) = false := by
    unfold openNoS
    rw [Bool.or_eq_false_iff]
    refine ⟨by simp; omega, ?_⟩
    rw [List.any_eq_false]
    intro x hx
    obtain ⟨j, hj, rfl⟩ := h.mem hx
    have := h.row j hj
    simp; omega
  rw [if_neg (by rw [this]; decide), if_pos h.len]
  rfl
theorem R8.least {es : List S55} {la : List Int} {now : Int} (h : R8 es la now) (le : Nat) (h1 : 1 ≤ le) (h8 : le ≤ 8) (hmin : ∀ j, 1 ≤ j → j ≤ 8 → la.getD le 0 ≤ la.getD j 0) (hfirst : ∀ j, 1 ≤ j → j < le → la.getD le 0 < la.getD j 0) : (leastS es).f0 = (le : Int) := by
  have hlen : 0 < es.length := by rw [h.len]; decide
  obtain ⟨j, hj, hje⟩ := h.mem (least_memS es hlen)
  have hq := h.row j hj
  have hle := h.row (le - 1) (by omega)
  have hmem : rd_T55 es ((le - 1 : Nat) : Int) ∈ es := by
    rw [rd_getS es (le - 1) (by rw [h.len]; omega)]
    exact List.getElem_mem _
  have hlt := least_leS es hlen _ hmem
  rw [hje] at hlt ⊢
  unfold ltrS at hlt
  simp only [decide_eq_false_iff_not, ordv_lt] at hlt
  have e1 : le - 1 + 1 = le := by omega
  rw [e1] at hle
  have a1 := hmin (j + 1) (by omega) (by omega)
  by_cases hc : j + 1 < le
  · have := hfirst (j + 1) (by omega) hc
    omega
  · omega
theorem R8.ask {es : List S55} {la : List Int} {now : Int} (h : R8 es la now) (h8 : 8 ≤ now) (k : Nat) (h1 : 1 ≤ k) (hk : k ≤ 8) (s : Int) : ((askS (after es (now + 1)) k s).1 == 0) = decide ((k : Int) = (leastS es).f0) := by
  have hneg : idxS (fun r => decide (r.f0 = (k : Int))) (after es (now + 1)) < 0 ↔ (k : Int) = (leastS es).f0 := by
    constructor
    · intro hlt
      by_cases e : (k : Int) = (leastS es).f0
      · exact e
      · exfalso
        unfold idxS at hlt
        cases hf : (after es (now + 1)).findIdx? (fun r => decide (r.f0 = (k : Int))) with
        | none =>
          rw [List.findIdx?_eq_none_iff] at hf
          have hr := h.row (k - 1) (by omega)
          have hmem : rd_T55 es ((k - 1 : Nat) : Int) ∈ es := by
            rw [rd_getS es (k - 1) (by rw [h.len]; omega)]
            exact List.getElem_mem _
          have hin : rd_T55 es ((k - 1 : Nat) : Int) ∈ after es (now + 1) := by
            unfold after
            refine List.mem_append.2 (.inl (List.mem_filter.2 ⟨hmem, ?_⟩))
            simp only [Bool.not_eq_true', decide_eq_false_iff_not]
            omega
          have := hf _ hin
          simp only [decide_eq_false_iff_not] at this
          omega
        | some i => rw [hf] at hlt; simp at hlt; omega
    · intro e
      unfold idxS
      have : (after es (now + 1)).findIdx? (fun r => decide (r.f0 = (k : Int))) = none := by
        rw [List.findIdx?_eq_none_iff]
        intro x hx
        unfold after at hx
        simp only [decide_eq_false_iff_not]
        rcases List.mem_append.1 hx with hx | hx
        · have := (List.mem_filter.1 hx).2
          simp only [Bool.not_eq_true', decide_eq_false_iff_not] at this
          omega
        · have : x = ⟨now + 1, 0, now + 1, ByteArray.empty⟩ := by simpa using hx
          subst this
          show ¬ (now + 1 = (k : Int))
          omega
      rw [this]
      decide
  unfold askS
  simp only []
  by_cases hc : idxS (fun r => decide (r.f0 = (k : Int))) (after es (now + 1)) < 0
  · rw [if_pos hc]
    have := hneg.1 hc
    simp [this]
  · rw [if_neg hc]
    have : ¬ (k : Int) = (leastS es).f0 := fun e => hc (hneg.2 e)
    rw [decide_eq_false this]
    split
    · rfl
    · split <;> rfl
theorem filter_one : ∀ (es : List S55) (m b : Int), (∀ j : Nat, (h : j < es.length) → es[j].f0 = b + (j : Int)) → b ≤ m → m < b + es.length → (es.filter (fun x => !decide (x.f0 = m))).length + 1 = es.length
  | [], m, b, _, h1, h2 => by simp at h2; omega
  | a :: l, m, b, h, h1, h2 => by
    have ha : a.f0 = b := by have := h 0 (by simp); simpa using this
    have hl : ∀ j : Nat, (hj : j < l.length) → l[j].f0 = (b + 1) + (j : Int) := by
      intro j hj
      have := h (j + 1) (by simpa using hj)
      simp only [List.getElem_cons_succ] at this
      rw [this]; push_cast; omega
    by_cases e : m = b
    · subst e
      have : l.filter (fun x => !decide (x.f0 = m)) = l := by
        rw [List.filter_eq_self]
        intro x hx
        obtain ⟨j, hj, rfl⟩ := List.getElem_of_mem hx
        rw [hl j hj]
        simp; omega
      simp [ha, this]
    · have := filter_one l m (b + 1) hl (by omega) (by simp at h2; omega)
      have hne : ¬ a.f0 = m := by omega
      simp [hne]; omega
theorem R8.after_len {es : List S55} {la : List Int} {now : Int} (h : R8 es la now) (t : Int) : (after es t).length = 8 := by
  have hlen : 0 < es.length := by rw [h.len]; decide
  obtain ⟨j, hj, hje⟩ := h.mem (least_memS es hlen)
  have hq := (h.row j hj).1
  have := filter_one es (leastS es).f0 1 (fun q hq => by rw [← rd_getS es q hq, (h.row q (by rw [h.len] at hq; exact hq)).1]; omega) (by rw [hje]; omega) (by rw [hje, h.len]; omega)
  unfold after
  simp only [List.length_append, List.length_singleton]
  rw [h.len] at this
  omega
/-- The first rows. -/
def firsts (i : Nat) : List S55 := (List.range i).map (fun (j : Nat) => ⟨(j : Int) + 1, 0, (j : Int) + 1, ByteArray.empty⟩)
theorem firsts_open (i : Nat) (h : i < 8) : openLS (firsts i) ((i : Int) + 1) = (true, firsts (i + 1)) := by
  unfold openLS
  have hl : (firsts i).length = i := by simp [firsts]
  have : openNoS (firsts i) ((i : Int) + 1) = false := by
    unfold openNoS
    rw [Bool.or_eq_false_iff]
    refine ⟨by simp; omega, ?_⟩
    rw [List.any_eq_false]
    intro x hx
    unfold firsts at hx
    obtain ⟨j, hj, rfl⟩ := List.mem_map.1 hx
    have := List.mem_range.1 hj
    simp; omega
  rw [if_neg (by rw [this]; decide), if_neg (by rw [hl]; omega)]
  simp [firsts, List.range_succ]
theorem firsts_R8 : R8 (firsts 8) [0, 1, 2, 3, 4, 5, 6, 7, 8] 8 where
  len := rfl
  lla := rfl
  row := by
    intro j hj
    have : j = 0 ∨ j = 1 ∨ j = 2 ∨ j = 3 ∨ j = 4 ∨ j = 5 ∨ j = 6 ∨ j = 7 := by omega
    rcases this with rfl | rfl | rfl | rfl | rfl | rfl | rfl | rfl <;> exact ⟨rfl, rfl, by decide, by decide⟩

end Go.Proofs.Ytahkokbfghifhaa.PS
