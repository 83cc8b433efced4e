/- Ask: the verdict, and what came of it. -/
import Derived.Test.YtahkokbfghifhaaAt
import Derived.Test.YtahkokbfghifhaaProg
import Derived.Below
import Derived.Deep.Draws
import Derived.Deep.AppendLies
import Derived.Maps.AppendAt
import Derived.OwnWalk
import Derived.Laws.BytesArg
import Derived.Laws.MakeOwn
import Derived.Laws.OwnMore
import Derived.Deep.OwnRows
import Derived.Tactics
import Derived.Lib.ConvBytes
import Derived.Laws.Slices
import Derived.WalkKit
import Derived.KernelRfl
import Derived.RowKit3
import Derived.Deep.LoopGhost
import Derived.Deep.QuietTactic
import Derived.BigQuiet
import Derived.WideLaws
import Derived.Deep.DeepCutAuto
import Derived.Deep.CutBlock
import Derived.Deep.RegionHeld3
import Derived.Laws.Rows
import Derived.Lib.AppendStr
import Derived.ArgAppend
import Derived.Laws.IdiomCopy
import Derived.OrdersHeld
import Derived.Laws.BitsLemmas
import Derived.RowKit
import Derived.Test.YtahkokbfghifhaaWWords
import Derived.Test.YtahkokbfghifhaaWLast
import Derived.Test.YtahkokbfghifhaaWTab
import Derived.Test.YtahkokbfghifhaaWFour
import Derived.Test.YtahkokbfghifhaaWQPut
import Derived.Test.YtahkokbfghifhaaWApart
import Derived.Test.YtahkokbfghifhaaWArr
import Derived.Test.YtahkokbfghifhaaWZeros
import Derived.Test.YtahkokbfghifhaaWFoot
import Derived.Test.YtahkokbfghifhaaWKept
import Derived.Test.YtahkokbfghifhaaWShare
import Derived.Test.YtahkokbfghifhaaWN
import Derived.Test.YtahkokbfghifhaaWFootNe
import Derived.Test.YtahkokbfghifhaaWAt
import Derived.Test.YtahkokbfghifhaaWEqStruct
import Derived.Test.YtahkokbfghifhaaWRepsOne
import Derived.Test.YtahkokbfghifhaaWInv
import Derived.Test.YtahkokbfghifhaaWInvWords
import Derived.Test.YtahkokbfghifhaaWGuard
import Derived.Test.YtahkokbfghifhaaWNEv
import Derived.Test.YtahkokbfghifhaaWMore
namespace Go.Proofs.Ytahkokbfghifhaa.PS
open Go.RowKit Go.Proofs.YtahkokbfghifhaaW.PrintWords Go.Proofs.YtahkokbfghifhaaW.PrintLast Go.Proofs.YtahkokbfghifhaaW.PrintMore
set_option linter.unusedVariables false
set_option linter.unusedSimpArgs false
set_option maxHeartbeats 4000000
set_option maxRecDepth 100000

theorem idx_ltI (p : S45 → Bool) (es : List S45) (h : 0 ≤ idxI p es) : idxI p es < es.length ∧ p (rd_T45 es (idxI p es)) = true := by
  unfold idxI at *
  cases e : es.findIdx? p with
  | none => rw [e] at h; simp at h
  | some i =>
    rw [List.findIdx?_eq_some_iff_getElem] at e
    obtain ⟨h1, h2, _⟩ := e
    refine ⟨by simpa using h1, ?_⟩
    simp [rd_T45, h1, h2]
theorem idx_geI (p : S45 → Bool) (es : List S45) : -1 ≤ idxI p es := by
  unfold idxI
  cases es.findIdx? p <;> simp <;> omega
/-- What Ask answers. -/
def askI (es : List S45) (id seq : Int) : Int × Int :=
  let i := idxI (fun x => decide (x.f0 = id)) es
  if i < 0 then (0, (0 : Int)) else if seq > (rd_T45 es i).f1 then (1, (0 : Int)) else if seq = (rd_T45 es i).f1 ∧ seq > 0 then (2, (rd_T45 es i).f3) else (3, (0 : Int))
theorem ask_callsI {w : World} {ok : Nat → Prop} {g : Nat} {es : List S45} (h : TblI w ok g es) (id seq : Int) :
    Calls Try.prog 9 #[.pointer (some ⟨g, 0, none⟩), .int .i64 id, .int .i64 seq] w fun e w' => e = .returned (.tuple #[.int .i64 (askI es id seq).1, .int .i64 (askI es id seq).2]) ∧ Below w.heap.size w w' := by
  have HAT := Aside0.mk (at_callsI h id)
  have HT := Aside0.mk h
  have hlt := idx_ltI (fun x => decide (x.f0 = id)) es
  unfold askI
  generalize hi : idxI (fun x => decide (x.f0 = id)) es = i at *
  clear hi h
  simp only []
  by_cases h0 : i < 0
  · rw [if_pos h0]
    have d0 : decide (i < 0) = true := decide_eq_true h0
    clear h0 hlt
    go_enter Try.func9, Try.ntmps9
    go_wp2_with fail
    refine HAT.out.mono ?_
    rintro _ w1 ⟨rfl, hb⟩
    have HB := Aside0.mk hb
    clear hb
    go_wp2_with fail
    go_ret2
    exact ⟨rfl, HB.out⟩
  · rw [if_neg h0]
    obtain ⟨hl, -⟩ := hlt (by omega)
    have d0 : decide (i < 0) = false := decide_eq_false h0
    have HL := Aside0.mk (show 0 ≤ i ∧ i < es.length from ⟨by omega, hl⟩)
    clear h0 hl
    generalize hy : rd_T45 es i = y
    have HY := Aside0.mk hy
    clear hy
    by_cases h1 : seq > y.f1
    · rw [if_pos h1]
      have d1 : decide (seq > y.f1) = true := decide_eq_true h1
      clear h1
      go_enter Try.func9, Try.ntmps9
      go_wp2_with fail
      refine HAT.out.mono ?_
      rintro _ w1 ⟨rfl, hb⟩
      have h2' := HT.out.below hb
      obtain ⟨A, c, cg, hc, hr⟩ := h2'.cells
      obtain ⟨ad, rfl, c0, c1, c2, c3⟩ := at_T45 hr i HL.out.1 HL.out.2
      rw [HY.out] at c0 c1 c2 c3
      have q0 : 0 ≤ i := HL.out.1
      have q1 : i < (es.length : Int) := HL.out.2
      have HB := Aside0.mk hb
      clear hb h2' hr hc
      go_wp2_with fail
      go_ret2
      exact ⟨rfl, HB.out⟩
    · rw [if_neg h1]
      have d1 : decide (seq > y.f1) = false := decide_eq_false h1
      by_cases h2 : seq = y.f1 ∧ seq > 0
      · rw [if_pos h2]
        obtain ⟨rfl, h3⟩ := h2
        have d3 : decide (y.f1 > 0) = true := decide_eq_true h3
        clear h1 h3
        go_enter Try.func9, Try.ntmps9
        go_wp2_with fail
        refine HAT.out.mono ?_
        rintro _ w1 ⟨rfl, hb⟩
        have h2' := HT.out.below hb
        obtain ⟨A, c, cg, hc, hr⟩ := h2'.cells
        obtain ⟨ad, rfl, c0, c1, c2, c3⟩ := at_T45 hr i HL.out.1 HL.out.2
        rw [HY.out] at c0 c1 c2 c3
        have q0 : 0 ≤ i := HL.out.1
        have q1 : i < (es.length : Int) := HL.out.2
        have HB := Aside0.mk hb
        clear hb h2' hr hc
        go_wp2_with fail
        go_quiet (fail)
        go_wp2_with fail
        go_ret2
        exact ⟨rfl, pw_below_drewN HB.out _⟩
      · rw [if_neg h2]
        by_cases h3 : seq = y.f1
        · subst h3
          have d3 : decide (y.f1 > 0) = false := decide_eq_false (fun h => h2 ⟨rfl, h⟩)
          clear h1 h2
          go_enter Try.func9, Try.ntmps9
          go_wp2_with fail
          refine HAT.out.mono ?_
          rintro _ w1 ⟨rfl, hb⟩
          have h2' := HT.out.below hb
          obtain ⟨A, c, cg, hc, hr⟩ := h2'.cells
          obtain ⟨ad, rfl, c0, c1, c2, c3⟩ := at_T45 hr i HL.out.1 HL.out.2
          rw [HY.out] at c0 c1 c2 c3
          have q0 : 0 ≤ i := HL.out.1
          have q1 : i < (es.length : Int) := HL.out.2
          have HB := Aside0.mk hb
          clear hb h2' hr hc
          go_wp2_with fail
          go_ret2
          exact ⟨rfl, HB.out⟩
        · have d2 : (seq == y.f1) = false := decide_eq_false h3
          clear h1 h2 h3
          go_enter Try.func9, Try.ntmps9
          go_wp2_with fail
          refine HAT.out.mono ?_
          rintro _ w1 ⟨rfl, hb⟩
          have h2' := HT.out.below hb
          obtain ⟨A, c, cg, hc, hr⟩ := h2'.cells
          obtain ⟨ad, rfl, c0, c1, c2, c3⟩ := at_T45 hr i HL.out.1 HL.out.2
          rw [HY.out] at c0 c1 c2 c3
          have q0 : 0 ≤ i := HL.out.1
          have q1 : i < (es.length : Int) := HL.out.2
          have HB := Aside0.mk hb
          clear hb h2' hr hc
          go_wp2_with fail
          go_ret2
          exact ⟨rfl, HB.out⟩

theorem idx_ltS (p : S55 → Bool) (es : List S55) (h : 0 ≤ idxS p es) : idxS p es < es.length ∧ p (rd_T55 es (idxS p es)) = true := by
  unfold idxS at *
  cases e : es.findIdx? p with
  | none => rw [e] at h; simp at h
  | some i =>
    rw [List.findIdx?_eq_some_iff_getElem] at e
    obtain ⟨h1, h2, _⟩ := e
    refine ⟨by simpa using h1, ?_⟩
    simp [rd_T55, h1, h2]
theorem idx_geS (p : S55 → Bool) (es : List S55) : -1 ≤ idxS p es := by
  unfold idxS
  cases es.findIdx? p <;> simp <;> omega
/-- What Ask answers. -/
def askS (es : List S55) (id seq : Int) : Int × ByteArray :=
  let i := idxS (fun x => decide (x.f0 = id)) es
  if i < 0 then (0, ByteArray.empty) else if seq > (rd_T55 es i).f1 then (1, ByteArray.empty) else if seq = (rd_T55 es i).f1 ∧ seq > 0 then (2, (rd_T55 es i).f3) else (3, ByteArray.empty)
theorem ask_callsS {w : World} {ok : Nat → Prop} {g : Nat} {es : List S55} (h : TblS w ok g es) (id seq : Int) :
    Calls Try.prog 13 #[.pointer (some ⟨g, 0, none⟩), .int .i64 id, .int .i64 seq] w fun e w' => e = .returned (.tuple #[.int .i64 (askS es id seq).1, .string (askS es id seq).2]) ∧ Below w.heap.size w w' := by
  have HAT := Aside0.mk (at_callsS h id)
  have HT := Aside0.mk h
  have hlt := idx_ltS (fun x => decide (x.f0 = id)) es
  unfold askS
  generalize hi : idxS (fun x => decide (x.f0 = id)) es = i at *
  clear hi h
  simp only []
  by_cases h0 : i < 0
  · rw [if_pos h0]
    have d0 : decide (i < 0) = true := decide_eq_true h0
    clear h0 hlt
    go_enter Try.func13, Try.ntmps13
    go_wp2_with fail
    refine HAT.out.mono ?_
    rintro _ w1 ⟨rfl, hb⟩
    have HB := Aside0.mk hb
    clear hb
    go_wp2_with fail
    go_ret2
    exact ⟨rfl, HB.out⟩
  · rw [if_neg h0]
    obtain ⟨hl, -⟩ := hlt (by omega)
    have d0 : decide (i < 0) = false := decide_eq_false h0
    have HL := Aside0.mk (show 0 ≤ i ∧ i < es.length from ⟨by omega, hl⟩)
    clear h0 hl
    generalize hy : rd_T55 es i = y
    have HY := Aside0.mk hy
    clear hy
    by_cases h1 : seq > y.f1
    · rw [if_pos h1]
      have d1 : decide (seq > y.f1) = true := decide_eq_true h1
      clear h1
      go_enter Try.func13, Try.ntmps13
      go_wp2_with fail
      refine HAT.out.mono ?_
      rintro _ w1 ⟨rfl, hb⟩
      have h2' := HT.out.below hb
      obtain ⟨A, c, cg, hc, hr⟩ := h2'.cells
      obtain ⟨ad, rfl, c0, c1, c2, c3⟩ := at_T55 hr i HL.out.1 HL.out.2
      rw [HY.out] at c0 c1 c2 c3
      have q0 : 0 ≤ i := HL.out.1
      have q1 : i < (es.length : Int) := HL.out.2
      have HB := Aside0.mk hb
      clear hb h2' hr hc
      go_wp2_with fail
      go_ret2
      exact ⟨rfl, HB.out⟩
    · rw [if_neg h1]
      have d1 : decide (seq > y.f1) = false := decide_eq_false h1
      by_cases h2 : seq = y.f1 ∧ seq > 0
      · rw [if_pos h2]
        obtain ⟨rfl, h3⟩ := h2
        have d3 : decide (y.f1 > 0) = true := decide_eq_true h3
        clear h1 h3
        go_enter Try.func13, Try.ntmps13
        go_wp2_with fail
        refine HAT.out.mono ?_
        rintro _ w1 ⟨rfl, hb⟩
        have h2' := HT.out.below hb
        obtain ⟨A, c, cg, hc, hr⟩ := h2'.cells
        obtain ⟨ad, rfl, c0, c1, c2, c3⟩ := at_T55 hr i HL.out.1 HL.out.2
        rw [HY.out] at c0 c1 c2 c3
        have q0 : 0 ≤ i := HL.out.1
        have q1 : i < (es.length : Int) := HL.out.2
        have HB := Aside0.mk hb
        clear hb h2' hr hc
        go_wp2_with fail
        go_quiet (fail)
        go_wp2_with fail
        go_ret2
        exact ⟨rfl, pw_below_drewN HB.out _⟩
      · rw [if_neg h2]
        by_cases h3 : seq = y.f1
        · subst h3
          have d3 : decide (y.f1 > 0) = false := decide_eq_false (fun h => h2 ⟨rfl, h⟩)
          clear h1 h2
          go_enter Try.func13, Try.ntmps13
          go_wp2_with fail
          refine HAT.out.mono ?_
          rintro _ w1 ⟨rfl, hb⟩
          have h2' := HT.out.below hb
          obtain ⟨A, c, cg, hc, hr⟩ := h2'.cells
          obtain ⟨ad, rfl, c0, c1, c2, c3⟩ := at_T55 hr i HL.out.1 HL.out.2
          rw [HY.out] at c0 c1 c2 c3
          have q0 : 0 ≤ i := HL.out.1
          have q1 : i < (es.length : Int) := HL.out.2
          have HB := Aside0.mk hb
          clear hb h2' hr hc
          go_wp2_with fail
          go_ret2
          exact ⟨rfl, HB.out⟩
        · have d2 : (seq == y.f1) = false := decide_eq_false h3
          clear h1 h2 h3
          go_enter Try.func13, Try.ntmps13
          go_wp2_with fail
          refine HAT.out.mono ?_
          rintro _ w1 ⟨rfl, hb⟩
          have h2' := HT.out.below hb
          obtain ⟨A, c, cg, hc, hr⟩ := h2'.cells
          obtain ⟨ad, rfl, c0, c1, c2, c3⟩ := at_T55 hr i HL.out.1 HL.out.2
          rw [HY.out] at c0 c1 c2 c3
          have q0 : 0 ≤ i := HL.out.1
          have q1 : i < (es.length : Int) := HL.out.2
          have HB := Aside0.mk hb
          clear hb h2' hr hc
          go_wp2_with fail
          go_ret2
          exact ⟨rfl, HB.out⟩

end Go.Proofs.Ytahkokbfghifhaa.PS
