/- SessionOnce: the walk. -/
import Derived.Test.YtahkokbfghifhaaFirst
import Derived.Maps.Views
import Derived.Maps.OwnOps
import Derived.Test.YtahkokbfghifhaaProg
import Derived.Below
import Derived.Deep.Draws
import Derived.Deep.AppendLies
import Derived.Maps.AppendAt
import Derived.OwnWalk
import Derived.Laws.BytesArg
import Derived.Laws.MakeOwn
import Derived.Laws.OwnMore
import Derived.Deep.OwnRows
import Derived.Tactics
import Derived.Lib.ConvBytes
import Derived.Laws.Slices
import Derived.WalkKit
import Derived.KernelRfl
import Derived.RowKit3
import Derived.Deep.LoopGhost
import Derived.Deep.QuietTactic
import Derived.BigQuiet
import Derived.WideLaws
import Derived.Deep.DeepCutAuto
import Derived.Deep.CutBlock
import Derived.Deep.RegionHeld3
import Derived.Laws.Rows
import Derived.Lib.AppendStr
import Derived.ArgAppend
import Derived.Laws.IdiomCopy
import Derived.OrdersHeld
import Derived.Laws.BitsLemmas
import Derived.RowKit
import Derived.Test.YtahkokbfghifhaaWWords
import Derived.Test.YtahkokbfghifhaaWLast
import Derived.Test.YtahkokbfghifhaaWTab
import Derived.Test.YtahkokbfghifhaaWFour
import Derived.Test.YtahkokbfghifhaaWQPut
import Derived.Test.YtahkokbfghifhaaWApart
import Derived.Test.YtahkokbfghifhaaWArr
import Derived.Test.YtahkokbfghifhaaWZeros
import Derived.Test.YtahkokbfghifhaaWFoot
import Derived.Test.YtahkokbfghifhaaWKept
import Derived.Test.YtahkokbfghifhaaWShare
import Derived.Test.YtahkokbfghifhaaWN
import Derived.Test.YtahkokbfghifhaaWFootNe
import Derived.Test.YtahkokbfghifhaaWAt
import Derived.Test.YtahkokbfghifhaaWEqStruct
import Derived.Test.YtahkokbfghifhaaWRepsOne
import Derived.Test.YtahkokbfghifhaaWInv
import Derived.Test.YtahkokbfghifhaaWInvWords
import Derived.Test.YtahkokbfghifhaaWGuard
import Derived.Test.YtahkokbfghifhaaWNEv
import Derived.Test.YtahkokbfghifhaaWMore
namespace Go.Proofs.Ytahkokbfghifhaa.PS
open Go.RowKit Go.Proofs.YtahkokbfghifhaaW.PrintWords Go.Proofs.YtahkokbfghifhaaW.PrintLast Go.Proofs.YtahkokbfghifhaaW.PrintMore
set_option linter.unusedVariables false
set_option linter.unusedSimpArgs false
set_option maxHeartbeats 4000000
set_option maxRecDepth 100000

open Go.Maps
theorem law3 : Keyed Try.prog 3 := int_keyed Try.underlying3
theorem zero3 (w : World) : (zeroValue 3).run Try.prog w = .ok (.int .i64 0) w := by kernel_rfl
/-- The map of what was done: nothing behind the last number; at the last one what came of it. -/
def MapInv (D : DataW Unit) (last x : Int) : Prop := IsMap D ∧ (∀ s, last < s → D.atKey (.int .i64 s) (.lit (.int .i64 0)) = .lit (.int .i64 0)) ∧ (0 < last → 1000 ≤ x ∧ D.atKey (.int .i64 last) (.lit (.int .i64 0)) = .lit (.int .i64 x))
theorem MapInv.put {D : DataW Unit} {last x s y : Int} (h : MapInv D last x) (hs : last < s) (hy : 1000 ≤ y) : MapInv (D.put (.int .i64 s) (.lit (.int .i64 y))) s y := by
  obtain ⟨h1, h2, h3⟩ := h
  refine ⟨?_, fun r hr => ?_, fun _ => ⟨hy, atKey_put_same h1 (by simp [WideAt.IsKeyLit]) _ _⟩⟩
  · obtain ⟨es, rfl⟩ := h1
    exact ⟨_, rfl⟩
  · rw [atKey_put_other (by intro he; injection he with _ he; omega)]
    exact h2 r (by omega)
theorem ownsMap_step {w w' : World} {b n : Nat} {D : DataW Unit} (h : w.ownsMap Try.prog 3 (plainElem Try.prog 3) b n D) (hm : w'.heap[b]? = w.heap[b]?) : w'.ownsMap Try.prog 3 (plainElem Try.prog 3) b n D := by
  obtain ⟨es, clock, hb, F, hs, hD⟩ := h
  exact ⟨es, clock, hm.trans hb, F, hs, hD⟩
theorem lookup_is {w : World} {b n : Nat} {D : DataW Unit} (h : w.ownsMap Try.prog 3 (plainElem Try.prog 3) b n D) {s c : Int} (hs : (Lit.int .i64 s).wf = true) (hc : D.atKey (.int .i64 s) (.lit (.int .i64 0)) = .lit (.int .i64 c)) : (Instr.lookup 28 (.map (some b)) (.int .i64 s) false).run Try.prog w = .ok (.int .i64 c) w := by
  obtain ⟨c', hrun, hat, _⟩ := h.lookup_int law3 Try.underlying28 Try.underlying3 (zero3 _) (keyOf_int_mk Try.underlying3 hs)
  rw [hc] at hat
  injection hat with hat
  injection hat with _ hat
  rw [hat]
  exact hrun
theorem ask_one (last used x s : Int) : askI [⟨1, last, used, x⟩] 1 s = if last < s then (1, 0) else if s = last ∧ 0 < s then (2, x) else (3, 0) := by
  have hi : idxI (fun r => decide (r.f0 = 1)) [(⟨1, last, used, x⟩ : S45)] = 0 := rfl
  unfold askI
  simp only [hi]
  rfl
theorem done_one (last used x s now y : Int) : doneI [⟨1, last, used, x⟩] 1 s now y = if last < s ∧ used ≤ now then (true, [⟨1, s, now, y⟩]) else (false, [⟨1, last, used, x⟩]) := by
  have hi : idxI (fun r => decide (r.f0 = 1)) [(⟨1, last, used, x⟩ : S45)] = 0 := rfl
  unfold doneI
  rw [ask_one]
  simp only [hi]
  by_cases h1 : last < s
  · by_cases h2 : used ≤ now
    · have h3 : ¬ now < used := by omega
      simp [h1, h2, h3]
    · have h3 : now < used := by omega
      simp [h1, h2, h3]
  · rw [if_neg h1, if_neg (c := last < s ∧ used ≤ now) (fun h => h1 h.1)]
    split <;> simp
theorem once_calls (A : Option Addr) (ca : Nat) (ts : List Int) (w : World) (hA : Kd.C (Kd.int .i64) w A ts.length ts) (hwf : ∀ n ∈ ts, (Lit.int .i64 n).wf = true) :
    Calls Try.prog 3 #[.slice A ts.length ca] w fun e w' => e = .returned (.bool true) ∧ Below w.heap.size w w' := by
  have hmm := @run_makeMap Try.prog
  have HA := Aside0.mk hA
  have HWF := Aside0.mk hwf
  have HN := Aside0.mk (Kd.C_max hA)
  clear hA hwf
  go_enter Try.func3, Try.ntmps3
  go_wp2_with fail
  refine (first_calls w).mono ?_
  rintro _ w1 ⟨rfl, hb⟩
  have hst := StI.made w w1 hb
  obtain ⟨w2, hw2⟩ : ∃ w2, w2 = w1.alloc (Obj.cells #[Value.slice none 0 0] 26) := ⟨_, rfl⟩
  obtain ⟨g, hg⟩ : ∃ g, g = w1.heap.size := ⟨_, rfl⟩
  have H2 := Aside0.mk (show StI w w2 g [] by rw [hw2, hg]; exact hst)
  have HW := Aside0.mk hw2
  have HG := Aside0.mk hg
  clear hst hw2 hg hb
  go_wp2_with fail
  rw [← HW.out, ← HG.out]
  refine (open_yesI H2.out.1 1 (by rfl) (by decide)).mono ?_
  rintro _ w3 ⟨rfl, hl, hk, hb⟩
  have H3 := Aside0.mk (H2.out.next hl hk hb)
  clear hl hk hb H2 HW HG
  have hmade := World.ownsMap_made (H := Unit) w3 Try.prog 3 (plainElem Try.prog 3)
  have hbb := below_alloc (Below.refl w3.heap.size w3) (Obj.map #[] 0)
  obtain ⟨mb, hmb⟩ : ∃ mb, mb = w3.heap.size := ⟨_, rfl⟩
  have T4 := Aside0.mk (show TblI (w3.alloc (Obj.map #[] 0)) (fun k => w.heap.size ≤ k ∧ k ≠ mb) g [⟨1, 0, 1, 0⟩] from ((TblI.bound H3.out.1).mono (fun k hk => ⟨hk.1, by have := hk.2; omega⟩)).below hbb)
  have M4 := Aside0.mk (show (w3.alloc (Obj.map #[] 0)).ownsMap Try.prog 3 (plainElem (H := Unit) Try.prog 3) mb 0 (.map []) by rw [hmb]; exact hmade)
  have B4 := Aside0.mk (show Below w.heap.size w (w3.alloc (Obj.map #[] 0)) from below_over H3.out.2 hbb)
  have I4 := Aside0.mk (show MapInv (.map []) 0 0 from ⟨isMap_empty, fun s _ => rfl, fun h => absurd h (by decide)⟩)
  have HMB := Aside0.mk hmb
  have HMW := Aside0.mk (show w.heap.size ≤ mb from hmb ▸ H3.out.2.size)
  clear hmade hbb H3 hmb
  go_wp2_with fail
  rw [← HMB.out]
  generalize w3.alloc (Obj.map #[] 0) = w4 at *
  generalize hL : ts.length = n at *
  have HLN := Aside0.mk hL
  clear hL
  go_loopw [15] (fun v15 wr => ∃ (i : Nat) (last used x : Int) (D : DataW Unit), v15 = .int .i64 (i : Int) ∧ Aside0 (i ≤ n ∧ i ≤ 100 ∧ 0 ≤ last ∧ used ≤ (i : Int) + 1) ∧ Aside0 (TblI wr (fun k => w.heap.size ≤ k ∧ k ≠ mb) g [⟨1, last, used, x⟩]) ∧ Aside0 (wr.ownsMap Try.prog 3 (plainElem Try.prog 3) mb i D) ∧ Aside0 (MapInv D last x) ∧ Aside0 (Below w.heap.size w wr)) (fun v15 _ => n - (intOf v15).toNat)
  case atStart => exact ⟨0, 0, 1, 0, _, rfl, Aside0.mk ⟨Nat.zero_le _, by omega, by omega, by decide⟩, T4, M4, I4, B4⟩
  case round =>
    obtain ⟨i, last, used, x, D, rfl, HI, HT, HM, HV, HB⟩ := hrel
    by_cases hin : i < n
    · have d1 : decide ((i : Int) < (n : Int)) = true := decide_eq_true (by omega)
      have hC2 := Kd.C_below HA.out HB.out
      obtain ⟨ad, rfl, hcell⟩ := Kd.at_int hC2 (i : Int) (by omega) (by omega)
      rw [Int.toNat_natCast] at hcell
      have hmem : rd ts (i : Int) ∈ ts := by
        have h9 : i < ts.length := by rw [HLN.out]; exact hin
        simp [rd, h9]
      have hsw := HWF.out _ hmem
      generalize rd ts (i : Int) = s at hcell hsw
      have HS := Aside0.mk hsw
      clear hC2 hmem hsw
      have hin2 : (i : Int) < (n : Int) := by omega
      have hi0 : (0 : Int) ≤ (i : Int) := by omega
      by_cases h100 : (100 : Int) ≤ (i : Int)
      · -- enough
        have d2 : decide ((i : Int) ≥ 100) = true := decide_eq_true h100
        clear h100
        go_wp2_with fail
        go_ret
        exact ⟨rfl, HB.out⟩
      · have d2 : decide ((i : Int) ≥ 100) = false := decide_eq_false h100
        have H100 := Aside0.mk h100
        clear h100
        have hwi : wrap64 ((i : Int) + 1) = ((i + 1 : Nat) : Int) := by have := H100.out; unfold wrap64; omega
        have hw2 : wrap64 (2 + (i : Int)) = 2 + (i : Int) := by have := H100.out; unfold wrap64; omega
        have hw3 : wrap64 (1000 + (i : Int)) = 1000 + (i : Int) := by have := H100.out; unfold wrap64; omega
        have hask := ask_callsI HT.out 1 s
        rw [ask_one] at hask
        by_cases hf : last < s
        · rw [if_pos hf] at hask
          have HASK := Aside0.mk hask
          have HF := Aside0.mk hf
          clear hask hf
          go_wp2_with fail
          refine HASK.out.mono ?_
          clear HASK
          rintro _ w5 ⟨rfl, hb⟩
          have T5 := Aside0.mk (HT.out.below hb)
          have M5 := Aside0.mk (ownsMap_step HM.out (hb.block _ HM.out.lt))
          have B5 := Aside0.mk (below_over HB.out hb)
          clear hb HT HM HB
          have hlk := lookup_is M5.out HS.out (HV.out.2.1 s HF.out)
          go_wp2_with fail
          have hdn := done_callsI T5.out 1 s (2 + (i : Int)) (1000 + (i : Int))
          rw [done_one, if_pos ⟨HF.out, by have := HI.out; omega⟩] at hdn
          have HDN := Aside0.mk hdn
          clear hdn hlk
          refine HDN.out.mono ?_
          clear HDN
          rintro _ w6 ⟨rfl, hl, hk, hb⟩
          have T6 := Aside0.mk (show TblI w6 (fun k => w.heap.size ≤ k ∧ k ≠ mb) g [⟨1, s, 2 + (i : Int), 1000 + (i : Int)⟩] from hl.mono (fun k hk' => by
            rcases hk' with h | h
            · exact h
            · have := M5.out.lt; have := B5.out.size; omega))
          have M6 := Aside0.mk (ownsMap_step M5.out (hk.2 _ M5.out.lt (fun h => h.2 rfl)))
          have B6 := Aside0.mk (below_kept B5.out hk hb (fun k hk' => hk'.1))
          clear hl hk hb T5 M5 B5
          go_wp2_with ((at_mapUpdate; refine wpList_mapUpdate_own _ rfl _ _ _ 28 rfl 3 3 law3 Try.underlying28 _ mb i D rfl M6.out (by have := HI.out; unfold maxLen; omega) _ _ _ rfl rfl (keyOf_int_mk Try.underlying3 HS.out) _ [] (plainElem_int Try.underlying3 (Go.WalkArith.wf_i64 (by have := HI.out; omega))) ?_; intro w7 hown7 hgr7))
          have T7 := Aside0.mk (T6.out.step (w' := w7) (fun k hk hlt => hgr7.block k hlt (fun he => hk.2 (by injection he))))
          have B7 := Aside0.mk (show Below w.heap.size w w7 from B6.out.trans ⟨hgr7.os, hgr7.tape, hgr7.output, hgr7.size, fun k hk => hgr7.block k (Nat.lt_of_lt_of_le hk B6.out.size) (fun he => by injection he with he; have := HMW.out; omega)⟩)
          rw [hw3] at hown7
          have M7 := Aside0.mk hown7
          have HIN := Aside0.mk hin
          clear hown7 hgr7 hin hin2 d1 T6 M6 B6
          go_roundw
          case rel => exact ⟨i + 1, s, 2 + (i : Int), 1000 + (i : Int), _, by rw [hwi], Aside0.mk ⟨by have := HIN.out; omega, by have := H100.out; omega, by have := HI.out; have := HF.out; omega, by omega⟩, T7, M7, Aside0.mk (HV.out.put HF.out (by omega)), B7⟩
          case measure => have := HIN.out; rw [hwi]; simp [intOf]; omega
        · rw [if_neg hf] at hask
          have HF := Aside0.mk hf
          have HIN := Aside0.mk hin
          clear hf hin
          by_cases he : s = last ∧ 0 < s
          · rw [if_pos he] at hask
            have HASK := Aside0.mk hask
            obtain ⟨rfl, hs0⟩ := he
            obtain ⟨hx, hat⟩ := HV.out.2.2 hs0
            have HAT := Aside0.mk hat
            have hx0 : (x == 0) = false := by simp; omega
            have hx1 : (x != 0) = true := by simp; omega
            clear hask hs0 hx hat
            go_wp2_with fail
            refine HASK.out.mono ?_
            clear HASK
            rintro _ w5 ⟨rfl, hb⟩
            have T5 := Aside0.mk (HT.out.below hb)
            have M5 := Aside0.mk (ownsMap_step HM.out (hb.block _ HM.out.lt))
            have B5 := Aside0.mk (below_over HB.out hb)
            clear hb HT HM HB
            have hlk := lookup_is M5.out HS.out HAT.out
            go_wp2_with fail
            have hdn := done_callsI T5.out 1 s (2 + (i : Int)) 5
            rw [done_one, if_neg (fun h => by have := HF.out; have := h.1; omega)] at hdn
            have HDN := Aside0.mk hdn
            clear hdn hlk
            refine HDN.out.mono ?_
            clear HDN
            rintro _ w6 ⟨rfl, hl, hk, hb⟩
            have T6 := Aside0.mk (show TblI w6 (fun k => w.heap.size ≤ k ∧ k ≠ mb) g [⟨1, s, used, x⟩] from hl.mono (fun k hk' => by
              rcases hk' with h | h
              · exact h
              · have := M5.out.lt; have := B5.out.size; omega))
            have M6 := Aside0.mk (ownsMap_step M5.out (hk.2 _ M5.out.lt (fun h => h.2 rfl)))
            have B6 := Aside0.mk (below_kept B5.out hk hb (fun k hk' => hk'.1))
            clear hl hk hb T5 M5 B5
            go_wp2_with fail
            go_roundw
            case rel => exact ⟨i + 1, s, used, x, D, by rw [hwi], Aside0.mk ⟨by have := HIN.out; omega, by have := H100.out; omega, HI.out.2.2.1, by have := HI.out.2.2.2; omega⟩, T6, Aside0.mk (M6.out.mono (Nat.le_succ _)), HV, B6⟩
            case measure => have := HIN.out; rw [hwi]; simp [intOf]; omega

          · rw [if_neg he] at hask
            have HASK := Aside0.mk hask
            clear hask he
            go_wp2_with fail
            refine HASK.out.mono ?_
            clear HASK
            rintro _ w5 ⟨rfl, hb⟩
            have T5 := Aside0.mk (HT.out.below hb)
            have M5 := Aside0.mk (ownsMap_step HM.out (hb.block _ HM.out.lt))
            have B5 := Aside0.mk (below_over HB.out hb)
            clear hb HT HM HB
            go_wp2_with fail
            have hdn := done_callsI T5.out 1 s (2 + (i : Int)) 5
            rw [done_one, if_neg (fun h => by have := HF.out; have := h.1; omega)] at hdn
            have HDN := Aside0.mk hdn
            clear hdn 
            refine HDN.out.mono ?_
            clear HDN
            rintro _ w6 ⟨rfl, hl, hk, hb⟩
            have T6 := Aside0.mk (show TblI w6 (fun k => w.heap.size ≤ k ∧ k ≠ mb) g [⟨1, last, used, x⟩] from hl.mono (fun k hk' => by
              rcases hk' with h | h
              · exact h
              · have := M5.out.lt; have := B5.out.size; omega))
            have M6 := Aside0.mk (ownsMap_step M5.out (hk.2 _ M5.out.lt (fun h => h.2 rfl)))
            have B6 := Aside0.mk (below_kept B5.out hk hb (fun k hk' => hk'.1))
            clear hl hk hb T5 M5 B5
            go_wp2_with fail
            go_roundw
            case rel => exact ⟨i + 1, last, used, x, D, by rw [hwi], Aside0.mk ⟨by have := HIN.out; omega, by have := H100.out; omega, HI.out.2.2.1, by have := HI.out.2.2.2; omega⟩, T6, Aside0.mk (M6.out.mono (Nat.le_succ _)), HV, B6⟩
            case measure => have := HIN.out; rw [hwi]; simp [intOf]; omega
    · have d1 : decide ((i : Int) < (n : Int)) = false := decide_eq_false (by omega)
      have hin2 : ¬ (i : Int) < (n : Int) := by omega
      go_wp2_with fail
      go_ret
      exact ⟨rfl, HB.out⟩

end Go.Proofs.Ytahkokbfghifhaa.PS
