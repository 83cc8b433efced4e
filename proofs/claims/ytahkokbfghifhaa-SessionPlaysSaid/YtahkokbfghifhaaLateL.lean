/- Open whole; the plain law of SessionLate. -/
import Derived.Test.YtahkokbfghifhaaFull
import Derived.Test.YtahkokbfghifhaaRowsF
import Derived.Test.YtahkokbfghifhaaProg
import Derived.Below
import Derived.Deep.Draws
import Derived.Deep.AppendLies
import Derived.Maps.AppendAt
import Derived.OwnWalk
import Derived.Laws.BytesArg
import Derived.Laws.MakeOwn
import Derived.Laws.OwnMore
import Derived.Deep.OwnRows
import Derived.Tactics
import Derived.Lib.ConvBytes
import Derived.Laws.Slices
import Derived.WalkKit
import Derived.KernelRfl
import Derived.RowKit3
import Derived.Deep.LoopGhost
import Derived.Deep.QuietTactic
import Derived.BigQuiet
import Derived.WideLaws
import Derived.Deep.DeepCutAuto
import Derived.Deep.CutBlock
import Derived.Deep.RegionHeld3
import Derived.Laws.Rows
import Derived.Lib.AppendStr
import Derived.ArgAppend
import Derived.Laws.IdiomCopy
import Derived.OrdersHeld
import Derived.Laws.BitsLemmas
import Derived.RowKit
import Derived.Test.YtahkokbfghifhaaWWords
import Derived.Test.YtahkokbfghifhaaWLast
import Derived.Test.YtahkokbfghifhaaWTab
import Derived.Test.YtahkokbfghifhaaWFour
import Derived.Test.YtahkokbfghifhaaWQPut
import Derived.Test.YtahkokbfghifhaaWApart
import Derived.Test.YtahkokbfghifhaaWArr
import Derived.Test.YtahkokbfghifhaaWZeros
import Derived.Test.YtahkokbfghifhaaWFoot
import Derived.Test.YtahkokbfghifhaaWKept
import Derived.Test.YtahkokbfghifhaaWShare
import Derived.Test.YtahkokbfghifhaaWN
import Derived.Test.YtahkokbfghifhaaWFootNe
import Derived.Test.YtahkokbfghifhaaWAt
import Derived.Test.YtahkokbfghifhaaWEqStruct
import Derived.Test.YtahkokbfghifhaaWRepsOne
import Derived.Test.YtahkokbfghifhaaWInv
import Derived.Test.YtahkokbfghifhaaWInvWords
import Derived.Test.YtahkokbfghifhaaWGuard
import Derived.Test.YtahkokbfghifhaaWNEv
import Derived.Test.YtahkokbfghifhaaWMore
namespace Go.Proofs.Ytahkokbfghifhaa.PS
open Go.RowKit Go.Proofs.YtahkokbfghifhaaW.PrintWords Go.Proofs.YtahkokbfghifhaaW.PrintLast Go.Proofs.YtahkokbfghifhaaW.PrintMore
set_option linter.unusedVariables false
set_option linter.unusedSimpArgs false
set_option maxHeartbeats 4000000
set_option maxRecDepth 100000

/-- What Open answers, and leaves. -/
def openLI (es : List S45) (now : Int) : Bool × List S45 :=
  if openNoI es now = true then (false, es) else (true, (if es.length = 8 then es.filter (fun x => !decide (x.f0 = (leastI es).f0)) else es) ++ [⟨now, 0, now, (0 : Int)⟩])
theorem open_callsI {w : World} {ok : Nat → Prop} {g : Nat} {es : List S45} (h : TblI w ok g es) (now : Int) (hlen : es.length ≤ 8) :
    Calls Try.prog 8 #[.pointer (some ⟨g, 0, none⟩), .int .i64 now] w fun e w' => e = .returned (.bool (openLI es now).1) ∧ TblI w' (fun k => ok k ∨ w.heap.size ≤ k) g (openLI es now).2 ∧ Kept w w' ok ∧ Below 0 w w' := by
  unfold openLI
  by_cases hno : openNoI es now = true
  · rw [if_pos hno]
    exact open_noI h now hno
  · rw [if_neg hno]
    have hno2 : openNoI es now = false := by simpa using hno
    by_cases h8 : es.length = 8
    · simp only [if_pos h8]
      exact open_fullI h now hno2 h8
    · simp only [if_neg h8]
      exact open_yesI h now hno2 (by omega)
theorem least_filterI (es : List S45) (h : 0 < es.length) : (es.filter (fun x => !decide (x.f0 = (leastI es).f0))).length < es.length := by
  rw [List.length_filter_lt_length_iff_exists]
  exact ⟨_, least_memI es h, by simp⟩
theorem open_lenI (es : List S45) (now : Int) (h : es.length ≤ 8) : (openLI es now).2.length ≤ 8 := by
  unfold openLI
  split
  · exact h
  · simp only [List.length_append, List.length_singleton]
    split
    · have := least_filterI es (by omega); omega
    · omega
theorem set_lenI (es : List S45) (id seq now : Int) (x : Int) : (doneI es id seq now x).2.length = es.length := by
  unfold doneI
  split <;> simp

/-- What Open answers, and leaves. -/
def openLS (es : List S55) (now : Int) : Bool × List S55 :=
  if openNoS es now = true then (false, es) else (true, (if es.length = 8 then es.filter (fun x => !decide (x.f0 = (leastS es).f0)) else es) ++ [⟨now, 0, now, ByteArray.empty⟩])
theorem open_callsS {w : World} {ok : Nat → Prop} {g : Nat} {es : List S55} (h : TblS w ok g es) (now : Int) (hlen : es.length ≤ 8) :
    Calls Try.prog 11 #[.pointer (some ⟨g, 0, none⟩), .int .i64 now] w fun e w' => e = .returned (.bool (openLS es now).1) ∧ TblS w' (fun k => ok k ∨ w.heap.size ≤ k) g (openLS es now).2 ∧ Kept w w' ok ∧ Below 0 w w' := by
  unfold openLS
  by_cases hno : openNoS es now = true
  · rw [if_pos hno]
    exact open_noS h now hno
  · rw [if_neg hno]
    have hno2 : openNoS es now = false := by simpa using hno
    by_cases h8 : es.length = 8
    · simp only [if_pos h8]
      exact open_fullS h now hno2 h8
    · simp only [if_neg h8]
      exact open_yesS h now hno2 (by omega)
theorem least_filterS (es : List S55) (h : 0 < es.length) : (es.filter (fun x => !decide (x.f0 = (leastS es).f0))).length < es.length := by
  rw [List.length_filter_lt_length_iff_exists]
  exact ⟨_, least_memS es h, by simp⟩
theorem open_lenS (es : List S55) (now : Int) (h : es.length ≤ 8) : (openLS es now).2.length ≤ 8 := by
  unfold openLS
  split
  · exact h
  · simp only [List.length_append, List.length_singleton]
    split
    · have := least_filterS es (by omega); omega
    · omega
theorem set_lenS (es : List S55) (id seq now : Int) (x : ByteArray) : (doneS es id seq now x).2.length = es.length := by
  unfold doneS
  split <;> simp

/-- The moments of a table: last is the latest of all. -/
def Inv (es : List S45) (last seq : Int) : Prop := es.length ≤ 8 ∧ (∀ r ∈ es, r.f2 ≤ last ∧ r.f0 ≤ last ∧ r.f1 ≤ seq) ∧ ((es = [] ∧ last = 0) ∨ ∃ r ∈ es, r.f2 = last)
theorem Inv.open_is {es : List S45} {last seq : Int} (h : Inv es last seq) (n : Int) (h0 : 0 ≤ last) : (openLI es n).1 = decide (n > last) := by
  obtain ⟨_, h1, h2⟩ := h
  unfold openLI
  by_cases hn : n > last
  · have : openNoI es n = false := by
      unfold openNoI
      rw [Bool.or_eq_false_iff]
      refine ⟨by simp; omega, ?_⟩
      rw [List.any_eq_false]
      intro r hr
      have := h1 r hr
      simp; omega
    simp [this, hn]
  · have : openNoI es n = true := by
      unfold openNoI
      rw [Bool.or_eq_true]
      rcases h2 with ⟨_, hl⟩ | ⟨r, hr, hu⟩
      · left; simp; omega
      · right
        rw [List.any_eq_true]
        exact ⟨r, hr, by simp; omega⟩
    simp [this]; omega
theorem Inv.opened {es : List S45} {last seq : Int} (h : Inv es last seq) (n : Int) (h0 : 0 ≤ last) (hs : 0 ≤ seq) (hn : n > last) : Inv (openLI es n).2 n seq := by
  have hl := open_lenI es n h.1
  have ho := h.open_is n h0
  obtain ⟨_, h1, _⟩ := h
  refine ⟨hl, ?_, .inr ?_⟩
  · unfold openLI at ho ⊢
    by_cases hno : openNoI es n = true
    · rw [if_pos hno] at ho
      simp at ho; omega
    · rw [if_neg hno]
      intro r hr
      rcases List.mem_append.1 hr with hr | hr
      · have hr2 : r ∈ es := by
          revert hr
          split
          · exact fun hr => (List.mem_filter.1 hr).1
          · exact id
        have := h1 r hr2
        omega
      · have : r = ⟨n, 0, n, 0⟩ := by simpa using hr
        subst this
        exact ⟨Int.le_refl _, Int.le_refl _, hs⟩
  · unfold openLI at ho ⊢
    by_cases hno : openNoI es n = true
    · rw [if_pos hno] at ho
      simp at ho; omega
    · rw [if_neg hno]
      exact ⟨⟨n, 0, n, 0⟩, List.mem_append.2 (.inr (List.mem_singleton.2 rfl)), rfl⟩
theorem Inv.refused {es : List S45} {last seq : Int} (h : Inv es last seq) (n : Int) (h0 : 0 ≤ last) (hn : ¬ n > last) : (openLI es n).2 = es := by
  have ho := h.open_is n h0
  unfold openLI at ho ⊢
  by_cases hno : openNoI es n = true
  · rw [if_pos hno]
  · rw [if_neg hno] at ho
    simp at ho; omega
theorem ask_new {es : List S45} {last seq : Int} (h : Inv es last seq) (r : S45) (hr : r ∈ es) : (askI es r.f0 (seq + 1)).1 = 1 := by
  have hi : 0 ≤ idxI (fun x => decide (x.f0 = r.f0)) es := by
    unfold idxI
    cases e : es.findIdx? (fun x => decide (x.f0 = r.f0)) with
    | none =>
      rw [List.findIdx?_eq_none_iff] at e
      have := e r hr
      simp at this
    | some i => show (0 : Int) ≤ (i : Int); omega
  have hlt := idx_ltI (fun x => decide (x.f0 = r.f0)) es hi
  unfold askI
  simp only []
  rw [if_neg (by omega), if_pos ?_]
  have hm : rd_T45 es (idxI (fun x => decide (x.f0 = r.f0)) es) ∈ es := by
    have h9 : (idxI (fun x => decide (x.f0 = r.f0)) es).toNat < es.length := by omega
    unfold rd_T45
    rw [List.getD_eq_getElem?_getD, List.getElem?_eq_getElem h9]
    exact List.getElem_mem h9
  have := h.2.1 _ hm
  omega
theorem Inv.done_is {es : List S45} {last seq : Int} (h : Inv es last seq) (r : S45) (hr : r ∈ es) (n : Int) : (doneI es r.f0 (seq + 1) n 0).1 = decide (n ≥ last) := by
  have ha := ask_new h r hr
  obtain ⟨_, h1, h2⟩ := h
  unfold doneI
  by_cases hn : n ≥ last
  · have : es.any (fun x => decide (x.f2 > n)) = false := by
      rw [List.any_eq_false]
      intro x hx
      have := h1 x hx
      simp; omega
    rw [if_pos ⟨ha, this⟩]; simp [hn]
  · have : es.any (fun x => decide (x.f2 > n)) = true := by
      rcases h2 with ⟨he, _⟩ | ⟨x, hx, hu⟩
      · rw [he] at hr; cases hr
      · rw [List.any_eq_true]
        exact ⟨x, hx, by simp; omega⟩
    rw [if_neg (fun hh => by rw [this] at hh; exact absurd hh.2 (by decide))]; simp; omega
theorem Inv.done_ {es : List S45} {last seq : Int} (h : Inv es last seq) (r : S45) (hr : r ∈ es) (n : Int) : Inv (doneI es r.f0 (seq + 1) n 0).2 (max last n) (seq + 1) := by
  have hd := h.done_is r hr n
  have ha := ask_new h r hr
  have hl := set_lenI es r.f0 (seq + 1) n 0
  have hi : 0 ≤ idxI (fun x => decide (x.f0 = r.f0)) es := ask_freshI es r.f0 (seq + 1) ha
  have hlt := idx_ltI (fun x => decide (x.f0 = r.f0)) es hi
  obtain ⟨h8, h1, h2⟩ := h
  refine ⟨by omega, ?_, .inr ?_⟩
  · unfold doneI at hd ⊢
    by_cases hc : (askI es r.f0 (seq + 1)).1 = 1 ∧ es.any (fun x => decide (x.f2 > n)) = false
    · rw [if_pos hc]
      intro x hx
      rcases List.mem_or_eq_of_mem_set hx with hx | hx
      · have := h1 x hx; omega
      · subst hx
        have := h1 r hr
        exact ⟨by show n ≤ max last n; omega, by show r.f0 ≤ max last n; omega, Int.le_refl _⟩
    · rw [if_neg hc]
      intro x hx
      have := h1 x hx; omega
  · unfold doneI at hd ⊢
    by_cases hc : (askI es r.f0 (seq + 1)).1 = 1 ∧ es.any (fun x => decide (x.f2 > n)) = false
    · rw [if_pos hc] at hd ⊢
      have hn : n ≥ last := by simpa using hd.symm
      refine ⟨⟨r.f0, seq + 1, n, 0⟩, ?_, by show n = max last n; omega⟩
      exact List.mem_set (by omega) _
    · rw [if_neg hc] at hd ⊢
      have hn : ¬ n ≥ last := by simpa using hd.symm
      rcases h2 with ⟨he, _⟩ | ⟨x, hx, hu⟩
      · rw [he] at hr; cases hr
      · exact ⟨x, hx, by omega⟩

end Go.Proofs.Ytahkokbfghifhaa.PS
