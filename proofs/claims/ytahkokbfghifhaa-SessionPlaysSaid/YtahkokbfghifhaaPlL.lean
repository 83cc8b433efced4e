/- The plain law of SessionPlays. -/
import Derived.Test.YtahkokbfghifhaaROpen
import Derived.Test.YtahkokbfghifhaaPSx2
import Derived.Test.YtahkokbfghifhaaProg
import Derived.Below
import Derived.Deep.Draws
import Derived.Deep.AppendLies
import Derived.Maps.AppendAt
import Derived.OwnWalk
import Derived.Laws.BytesArg
import Derived.Laws.MakeOwn
import Derived.Laws.OwnMore
import Derived.Deep.OwnRows
import Derived.Tactics
import Derived.Lib.ConvBytes
import Derived.Laws.Slices
import Derived.WalkKit
import Derived.KernelRfl
import Derived.RowKit3
import Derived.Deep.LoopGhost
import Derived.Deep.QuietTactic
import Derived.BigQuiet
import Derived.WideLaws
import Derived.Deep.DeepCutAuto
import Derived.Deep.CutBlock
import Derived.Deep.RegionHeld3
import Derived.Laws.Rows
import Derived.Lib.AppendStr
import Derived.ArgAppend
import Derived.Laws.IdiomCopy
import Derived.OrdersHeld
import Derived.Laws.BitsLemmas
import Derived.RowKit
import Derived.Test.YtahkokbfghifhaaWWords
import Derived.Test.YtahkokbfghifhaaWLast
import Derived.Test.YtahkokbfghifhaaWTab
import Derived.Test.YtahkokbfghifhaaWFour
import Derived.Test.YtahkokbfghifhaaWQPut
import Derived.Test.YtahkokbfghifhaaWApart
import Derived.Test.YtahkokbfghifhaaWArr
import Derived.Test.YtahkokbfghifhaaWZeros
import Derived.Test.YtahkokbfghifhaaWFoot
import Derived.Test.YtahkokbfghifhaaWKept
import Derived.Test.YtahkokbfghifhaaWShare
import Derived.Test.YtahkokbfghifhaaWN
import Derived.Test.YtahkokbfghifhaaWFootNe
import Derived.Test.YtahkokbfghifhaaWAt
import Derived.Test.YtahkokbfghifhaaWEqStruct
import Derived.Test.YtahkokbfghifhaaWRepsOne
import Derived.Test.YtahkokbfghifhaaWInv
import Derived.Test.YtahkokbfghifhaaWInvWords
import Derived.Test.YtahkokbfghifhaaWGuard
import Derived.Test.YtahkokbfghifhaaWNEv
import Derived.Test.YtahkokbfghifhaaWMore
namespace Go.Proofs.Ytahkokbfghifhaa.PS
open Go.RowKit Go.Proofs.YtahkokbfghifhaaW.PrintWords Go.Proofs.YtahkokbfghifhaaW.PrintLast Go.Proofs.YtahkokbfghifhaaW.PrintMore
set_option linter.unusedVariables false
set_option linter.unusedSimpArgs false
set_option maxHeartbeats 4000000
set_option maxRecDepth 100000

theorem same_loop (es : List S55) (hm : es.length ≤ 8) : ∀ n i k, i + n = es.length → n < k → calepinref13_Same.l0 k es es (es.length : Int) (i : Int) = some true
  | 0, i, 0, _, hk => absurd hk (Nat.lt_irrefl _)
  | 0, i, k + 1, h, _ => by
    unfold calepinref13_Same.l0
    rw [if_neg (by omega)]
  | n + 1, i, 0, _, hk => by omega
  | n + 1, i, k + 1, h, hk => by
    unfold calepinref13_Same.l0
    rw [if_pos (by omega), if_pos (by omega), if_pos (by omega), if_pos (by omega), if_neg (by simp), show wrap64 ((i : Int) + 1) = ((i + 1 : Nat) : Int) by unfold wrap64; omega]
    exact same_loop es hm n (i + 1) k (by omega) (by omega)
theorem same_self (es : List S55) (hm : es.length ≤ 8) : calepinref13_Same.f 9 es es = some true := by
  unfold calepinref13_Same.f
  rw [if_pos rfl]
  exact same_loop es hm es.length 0 9 (by omega) (by omega)
/-- A table's rows: at most eight, by rising numbers. -/
structure Good (es : List S55) : Prop where
  len : es.length ≤ 8
  up : ∀ i j : Nat, (hij : i < j) → (h : j < es.length) → (es[i]'(Nat.lt_trans hij h)).f0 < es[j].f0
theorem Good.nil : Good [] := ⟨by simp, fun i j _ h => by simp at h⟩
theorem Good.inj {es : List S55} (h : Good es) {i j : Nat} (hi : i < es.length) (hj : j < es.length) (e : es[i].f0 = es[j].f0) : i = j := by
  rcases Nat.lt_trichotomy i j with h1 | h1 | h1
  · have := h.up i j h1 hj; omega
  · exact h1
  · have := h.up j i h1 hi; omega
theorem risF_up : ∀ (es : List S55) (last : Int), risF last es = true → (∀ i : Nat, (h : i < es.length) → last < es[i].f0) ∧ (∀ i j : Nat, (hij : i < j) → (h : j < es.length) → (es[i]'(Nat.lt_trans hij h)).f0 < es[j].f0)
  | [], _, _ => ⟨fun i h => by simp at h, fun i j _ h => by simp at h⟩
  | r :: l, last, h => by
    simp only [risF, Bool.and_eq_true, decide_eq_true_eq] at h
    obtain ⟨⟨⟨h1, -⟩, -⟩, h2⟩ := h
    obtain ⟨a, b⟩ := risF_up l r.f0 h2
    refine ⟨fun i hi => ?_, fun i j hij hj => ?_⟩
    · rcases i with _ | i
      · exact h1
      · have := a i (by simpa using hi); simp only [List.getElem_cons_succ]; omega
    · rcases j with _ | j
      · omega
      · rcases i with _ | i
        · exact a j (by simpa using hj)
        · exact b i j (by omega) (by simpa using hj)
theorem Good.set_ {es : List S55} (h : setOK es = true) : Good es := by
  unfold setOK at h
  simp only [Bool.and_eq_true, decide_eq_true_eq] at h
  exact ⟨h.1, (risF_up es 0 h.2).2⟩
theorem Good.done {es : List S55} (h : Good es) (id seq now : Int) (x : ByteArray) : rdone es id seq now x = doneS es id seq now x ∧ Good (doneS es id seq now x).2 := by
  unfold rdone doneS
  by_cases hc : (askS es id seq).1 = 1 ∧ es.any (fun r => decide (r.f2 > now)) = false
  · rw [if_pos hc, if_pos hc]
    have hi := ask_freshS es id seq hc.1
    have hlt := idx_ltS (fun r => decide (r.f0 = id)) es hi
    generalize idxS (fun r => decide (r.f0 = id)) es = k at hi hlt
    obtain ⟨q, rfl⟩ : ∃ q : Nat, k = (q : Int) := ⟨k.toNat, by omega⟩
    have hq : q < es.length := by omega
    have hid : es[q].f0 = id := by
      have := hlt.2
      rw [rd_getS es q hq] at this
      simpa using this
    rw [Int.toNat_natCast]
    have e : es.map (upd id seq now x) = es.set q ⟨id, seq, now, x⟩ := by
      apply List.ext_getElem (by simp)
      intro j h1 h2
      rw [List.getElem_map, List.getElem_set]
      have hj : j < es.length := by simpa using h1
      unfold upd
      by_cases e : q = j
      · subst e
        rw [if_pos hid, if_pos rfl, hid]
      · rw [if_neg (fun he => e (h.inj hq hj (hid.trans he.symm))), if_neg e]
    refine ⟨by rw [e], ⟨by simpa using h.len, fun i j hij hj => ?_⟩⟩
    have hj2 : j < es.length := by simpa using hj
    have f0 : ∀ m, (hm : m < es.length) → ((es.set q ⟨id, seq, now, x⟩)[m]'(by simpa using hm)).f0 = es[m].f0 := by
      intro m hm
      rw [List.getElem_set]
      by_cases e : q = m
      · subst e; rw [if_pos rfl]; exact hid.symm
      · rw [if_neg e]
    rw [f0 i (by omega), f0 j hj2]
    exact h.up i j hij hj2
  · rw [if_neg hc, if_neg hc]
    exact ⟨rfl, h⟩
theorem Good.least {es : List S55} (h : Good es) (k : Nat) (hk : k < es.length) (hmin : ∀ j, j < es.length → (rd_T55 es (k : Int)).f2 ≤ (rd_T55 es (j : Int)).f2) (hfst : ∀ j, j < k → (rd_T55 es (k : Int)).f2 < (rd_T55 es (j : Int)).f2) : (leastS es).f0 = es[k].f0 := by
  have hlen : 0 < es.length := by omega
  obtain ⟨j, hj, hje⟩ := List.getElem_of_mem (least_memS es hlen)
  have hlt := least_leS es hlen _ (List.getElem_mem hk)
  rw [← hje] at hlt ⊢
  unfold ltrS at hlt
  simp only [decide_eq_false_iff_not, ordv_lt] at hlt
  have a1 := hmin j hj
  rw [rd_getS es k hk, rd_getS es j hj] at a1
  rcases Nat.lt_trichotomy j k with c | c | c
  · have a2 := hfst j c
    rw [rd_getS es k hk, rd_getS es j hj] at a2
    omega
  · subst c; rfl
  · have := h.up k j c hj
    omega
theorem Good.erase {es : List S55} (h : Good es) (k : Nat) (hk : k < es.length) : es.filter (fun x => !decide (x.f0 = es[k].f0)) = es.eraseIdx k := by
  have e : es = es.take k ++ es[k] :: es.drop (k + 1) := by rw [← List.drop_eq_getElem_cons hk, List.take_append_drop]
  rw [List.eraseIdx_eq_take_drop_succ]
  have key : ∀ c : Int, c = es[k].f0 → es.filter (fun x => !decide (x.f0 = c)) = es.take k ++ es.drop (k + 1) := by
    intro c hc
    have h1 : (es.take k).filter (fun x => !decide (x.f0 = c)) = es.take k := by
      rw [List.filter_eq_self]
      intro x hx
      obtain ⟨j, hj, rfl⟩ := List.getElem_of_mem hx
      have hjk : j < k := by rw [List.length_take] at hj; omega
      have := h.up j k hjk hk
      rw [List.getElem_take]
      simp only [Bool.not_eq_true', decide_eq_false_iff_not]
      omega
    have h2 : (es.drop (k + 1)).filter (fun x => !decide (x.f0 = c)) = es.drop (k + 1) := by
      rw [List.filter_eq_self]
      intro x hx
      obtain ⟨j, hj, rfl⟩ := List.getElem_of_mem hx
      have hj2 : k + 1 + j < es.length := by rw [List.length_drop] at hj; omega
      have := h.up k (k + 1 + j) (by omega) hj2
      rw [List.getElem_drop]
      simp only [Bool.not_eq_true', decide_eq_false_iff_not]
      omega
    rw [e, List.filter_append, List.filter_cons, ← e, h1, h2]
    have : (!decide (es[k].f0 = c)) = false := by simp [hc]
    rw [this]
    rfl
  exact key _ rfl
theorem Good.append {es : List S55} (h : Good es) (r : S55) (hl : es.length < 8) (hr : ∀ i : Nat, (hi : i < es.length) → es[i].f0 < r.f0) : Good (es ++ [r]) := by
  refine ⟨by simp; omega, fun i j hij hj => ?_⟩
  by_cases e : j < es.length
  · rw [List.getElem_append_left e, List.getElem_append_left (by omega)]
    exact h.up i j hij e
  · have hje : j = es.length := by simp at hj; omega
    subst hje
    rw [List.getElem_append_right (Nat.le_refl _), List.getElem_append_left hij]
    simpa using hr i hij
theorem Good.sub {es l : List S55} (h : Good es) (k : Nat) (hl : l = es.eraseIdx k) : Good l := by
  subst hl
  refine ⟨by have := h.len; rw [List.length_eraseIdx]; split <;> omega, fun i j hij hj => ?_⟩
  rw [List.getElem_eraseIdx, List.getElem_eraseIdx]
  have hl := List.length_eraseIdx (l := es) (i := k)
  have hj' : j < (es.eraseIdx k).length := hj
  rw [hl] at hj'
  by_cases c1 : i < k <;> by_cases c2 : j < k
  · simp only [c1, c2, dite_true]; exact h.up i j hij (by split at hj' <;> omega)
  · simp only [c1, c2, dite_true, dite_false]; exact h.up i (j + 1) (by omega) (by split at hj' <;> omega)
  · omega
  · simp only [c1, c2, dite_false]; exact h.up (i + 1) (j + 1) (by omega) (by split at hj' <;> omega)
theorem Good.opened {es : List S55} (h : Good es) (now : Int) (r : Bool) (es' : List S55) (hr : r = !openNoS es now) (hq : (r = false ∧ es' = es) ∨ (r = true ∧ ∃ le, Arg es es.length le ∧ es' = keepL es le es.length ++ [⟨now, 0, now, ByteArray.empty⟩])) : openLS es now = (r, es') ∧ Good es' := by
  unfold openLS
  rcases hq with ⟨h1, rfl⟩ | ⟨h1, le, ha, rfl⟩
  · have : openNoS es' now = true := by rw [h1] at hr; simpa using hr.symm
    rw [if_pos this, h1]
    exact ⟨rfl, h⟩
  · have hno : openNoS es now = false := by rw [h1] at hr; simpa using hr.symm
    have hsm : ∀ i : Nat, (hi : i < es.length) → es[i].f0 < now := by
      intro i hi
      unfold openNoS at hno
      rw [Bool.or_eq_false_iff, List.any_eq_false] at hno
      have := hno.2 _ (List.getElem_mem hi)
      simp only [decide_eq_true_eq] at this
      omega
    rw [if_neg (by rw [hno]; decide), h1]
    by_cases h8 : es.length < 8
    · have e : keepL es le es.length = es := by unfold keepL; rw [if_pos h8, List.take_length]
      rw [if_neg (by omega), e]
      exact ⟨rfl, h.append _ h8 hsm⟩
    · have h88 : es.length = 8 := by have := h.len; omega
      rcases ha with ⟨h0, _⟩ | ⟨k, rfl, hk, hmin, hfst⟩
      · omega
      · have e : keepL es (k : Int) es.length = es.eraseIdx k := by unfold keepL; rw [if_neg h8, List.take_length, Int.toNat_natCast]
        have hle := h.least k hk hmin hfst
        rw [if_pos h88, hle, h.erase k hk, e]
        refine ⟨rfl, (h.sub k rfl).append _ (by rw [List.length_eraseIdx]; split <;> omega) (fun i hi => ?_)⟩
        rw [List.getElem_eraseIdx]
        have hl := List.length_eraseIdx (l := es) (i := k)
        rw [hl] at hi
        split
        · exact hsm _ _
        · exact hsm _ _

end Go.Proofs.Ytahkokbfghifhaa.PS
