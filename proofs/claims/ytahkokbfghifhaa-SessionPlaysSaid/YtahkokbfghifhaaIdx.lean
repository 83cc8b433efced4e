/- IndexFunc over a table's rows, and the closures that are handed to it. -/
import Derived.Test.YtahkokbfghifhaaTab
import Derived.Shelf.Abstract
import Derived.Test.YtahkokbfghifhaaProg
import Derived.Below
import Derived.Deep.Draws
import Derived.Deep.AppendLies
import Derived.Maps.AppendAt
import Derived.OwnWalk
import Derived.Laws.BytesArg
import Derived.Laws.MakeOwn
import Derived.Laws.OwnMore
import Derived.Deep.OwnRows
import Derived.Tactics
import Derived.Lib.ConvBytes
import Derived.Laws.Slices
import Derived.WalkKit
import Derived.KernelRfl
import Derived.RowKit3
import Derived.Deep.LoopGhost
import Derived.Deep.QuietTactic
import Derived.BigQuiet
import Derived.WideLaws
import Derived.Deep.DeepCutAuto
import Derived.Deep.CutBlock
import Derived.Deep.RegionHeld3
import Derived.Laws.Rows
import Derived.Lib.AppendStr
import Derived.ArgAppend
import Derived.Laws.IdiomCopy
import Derived.OrdersHeld
import Derived.Laws.BitsLemmas
import Derived.RowKit
import Derived.Test.YtahkokbfghifhaaWWords
import Derived.Test.YtahkokbfghifhaaWLast
import Derived.Test.YtahkokbfghifhaaWTab
import Derived.Test.YtahkokbfghifhaaWFour
import Derived.Test.YtahkokbfghifhaaWQPut
import Derived.Test.YtahkokbfghifhaaWApart
import Derived.Test.YtahkokbfghifhaaWArr
import Derived.Test.YtahkokbfghifhaaWZeros
import Derived.Test.YtahkokbfghifhaaWFoot
import Derived.Test.YtahkokbfghifhaaWKept
import Derived.Test.YtahkokbfghifhaaWShare
import Derived.Test.YtahkokbfghifhaaWN
import Derived.Test.YtahkokbfghifhaaWFootNe
import Derived.Test.YtahkokbfghifhaaWAt
import Derived.Test.YtahkokbfghifhaaWEqStruct
import Derived.Test.YtahkokbfghifhaaWRepsOne
import Derived.Test.YtahkokbfghifhaaWInv
import Derived.Test.YtahkokbfghifhaaWInvWords
import Derived.Test.YtahkokbfghifhaaWGuard
import Derived.Test.YtahkokbfghifhaaWNEv
import Derived.Test.YtahkokbfghifhaaWMore
namespace Go.Proofs.Ytahkokbfghifhaa.PS
open Go.RowKit Go.Proofs.YtahkokbfghifhaaW.PrintWords Go.Proofs.YtahkokbfghifhaaW.PrintLast Go.Proofs.YtahkokbfghifhaaW.PrintMore
set_option linter.unusedVariables false
set_option linter.unusedSimpArgs false
set_option maxHeartbeats 4000000
set_option maxRecDepth 100000

theorem at1I (id : Int) (B : Nat) (w : World) (hB : B < w.heap.size) (hc : w.cell? ⟨B, 0, none⟩ = some (.int .i64 id)) : PredI 44 B (fun x => decide (x.f0 = id)) w := by
  intro W x hb
  have hcW : W.cell? ⟨B, 0, none⟩ = some (.int .i64 id) := (hb.cell (p := ⟨B, 0, none⟩) hB).trans hc
  have hne : B ≠ W.heap.size := by have := hb.size; omega
  have HB := Aside0.mk (below_alloc (Below.refl W.heap.size W) (Obj.cells (cs45 x).toArray 45))
  have hcA : (W.alloc (Obj.cells #[.int .i64 x.f0, .int .i64 x.f1, .int .i64 x.f2, .int .i64 x.f3] 45)).cell? ⟨B, 0, none⟩ = some (.int .i64 id) := (HB.out.cell (p := ⟨B, 0, none⟩) (Nat.lt_of_lt_of_le hB hb.size)).trans hcW
  clear hb hc hB hcW hne
  unfold cs45 at *
  go_enter Try.func44, Try.ntmps44
  go_wp2
  all_goals (go_ret; exact ⟨by rw [show (decide (x.f0 = id)) = (x.f0 == id) from rfl]; rfl, HB.out⟩)
theorem late1I (now : Int) (B : Nat) (w : World) (hB : B < w.heap.size) (hc : w.cell? ⟨B, 0, none⟩ = some (.int .i64 now)) : PredI 45 B (fun x => decide (x.f2 > now)) w := by
  intro W x hb
  have hcW : W.cell? ⟨B, 0, none⟩ = some (.int .i64 now) := (hb.cell (p := ⟨B, 0, none⟩) hB).trans hc
  have hne : B ≠ W.heap.size := by have := hb.size; omega
  have HB := Aside0.mk (below_alloc (Below.refl W.heap.size W) (Obj.cells (cs45 x).toArray 45))
  have hcA : (W.alloc (Obj.cells #[.int .i64 x.f0, .int .i64 x.f1, .int .i64 x.f2, .int .i64 x.f3] 45)).cell? ⟨B, 0, none⟩ = some (.int .i64 now) := (HB.out.cell (p := ⟨B, 0, none⟩) (Nat.lt_of_lt_of_le hB hb.size)).trans hcW
  clear hb hc hB hcW hne
  unfold cs45 at *
  go_enter Try.func45, Try.ntmps45
  go_wp2
  all_goals (go_ret; exact ⟨by simp_all, HB.out⟩)
theorem open1I (now : Int) (B : Nat) (w : World) (hB : B < w.heap.size) (hc : w.cell? ⟨B, 0, none⟩ = some (.int .i64 now)) : PredI 23 B (fun x => decide (max x.f2 x.f0 ≥ now)) w := by
  intro W x hb
  have hcW : W.cell? ⟨B, 0, none⟩ = some (.int .i64 now) := (hb.cell (p := ⟨B, 0, none⟩) hB).trans hc
  have hne : B ≠ W.heap.size := by have := hb.size; omega
  have HB := Aside0.mk (below_alloc (Below.refl W.heap.size W) (Obj.cells (cs45 x).toArray 45))
  have hcA : (W.alloc (Obj.cells #[.int .i64 x.f0, .int .i64 x.f1, .int .i64 x.f2, .int .i64 x.f3] 45)).cell? ⟨B, 0, none⟩ = some (.int .i64 now) := (HB.out.cell (p := ⟨B, 0, none⟩) (Nat.lt_of_lt_of_le hB hb.size)).trans hcW
  clear hb hc hB hcW hne
  unfold cs45 at *
  go_enter Try.func23, Try.ntmps23
  go_wp2
  all_goals (go_ret; exact ⟨by first | rfl | (simp_all [Int.max_def]; done) | (simp_all [Int.max_def]; split <;> omega), HB.out⟩)
theorem idx_callsI (f B : Nat) (p : S45 → Bool) (w : World) (A : Option Addr) (c : Nat) (es : List S45) (hp : PredI f B p w) (ef : Enters Try.prog f) (hC : Kd.C k45 w A es.length es) :
    Calls Try.prog 42 #[.slice A es.length c, .func (.func f) #[] #[.pointer (some ⟨B, 0, none⟩)]] w fun e w' => e = .returned (.int .i64 (idxI p es)) ∧ Below w.heap.size w w' := by
  have HC := Aside0.mk hC
  have HP := Aside0.mk hp
  have HN := Aside0.mk (Kd.C_max hC)
  have HM := Aside0.mk (show ∀ i, (∀ j, j < i → p (rd_T45 es (j : Nat)) = false) → i < es.length → p (rd_T45 es (i : Nat)) = true → idxI p es = (i : Int) from fun i h1 h2 h3 => by
    have : es.findIdx? p = some i := by
      rw [List.findIdx?_eq_some_iff_getElem]
      refine ⟨h2, ?_, fun j hj => ?_⟩
      · have : rd_T45 es (i : Nat) = es[i] := by simp [rd_T45, h2]
        rw [← this]; exact h3
      · have := h1 j hj
        have e : rd_T45 es (j : Nat) = es[j]'(by omega) := by simp [rd_T45, show j < es.length by omega]
        rw [← e, this]; simp
    simp [idxI, this])
  have HZ := Aside0.mk (show (∀ j, j < es.length → p (rd_T45 es (j : Nat)) = false) → idxI p es = -1 from fun h => by
    have : es.findIdx? p = none := by
      rw [List.findIdx?_eq_none_iff]
      intro x hx
      obtain ⟨j, hj, rfl⟩ := List.getElem_of_mem hx
      have := h j hj
      have e : rd_T45 es (j : Nat) = es[j] := by simp [rd_T45, hj]
      rw [← e]; exact this
    simp [idxI, this])
  have ef' : ∀ args w, (callFunc f args).run Try.prog w = .ok (.enter f args) w := ef
  clear hC hp ef
  generalize hL : es.length = n at *
  go_enter Try.func42, Try.ntmps42
  go_wp2
  have V0 := Aside0.mk (Below.refl w.heap.size w)
  go_loopw [5, 8] (fun _ v8 wr => ∃ (i : Nat), v8 = .int .i64 (i : Int) ∧ Aside0 (i ≤ n) ∧ Aside0 (∀ j, j < i → p (rd_T45 es (j : Nat)) = false) ∧ Aside0 (Below w.heap.size w wr)) (fun _ v8 _ => n - (intOf v8).toNat)
  case atStart => exact ⟨0, rfl, Aside0.mk (Nat.zero_le _), Aside0.mk (fun j hj => absurd hj (Nat.not_lt_zero _)), V0⟩
  case round =>
    obtain ⟨i, rfl, HI, HJ, HB⟩ := hrel
    by_cases hin : i < n
    · have d1 : decide ((i : Int) < (n : Int)) = true := decide_eq_true (by omega)
      have hC2 := Kd.C_below HC.out HB.out
      obtain ⟨ad, rfl, c0, c1, c2, c3⟩ := at_T45 hC2 (i : Int) (by omega) (by omega)
      have hcall := HP.out wr (rd_T45 es (i : Int)) HB.out
      have hm := HM.out i HJ.out hin
      rw [Int.toNat_natCast] at c0 c1 c2 c3
      generalize hy : rd_T45 es (i : Int) = y at c0 c1 c2 c3 hcall hm
      have HY := Aside0.mk hy
      have HMI := Aside0.mk hm
      clear hy hC2 hm
      have hin2 : (i : Int) < (n : Int) := by omega
      have hi0 : (0 : Int) ≤ (i : Int) := by omega
      cases hq : p y with
      | true =>
        rw [hq] at hcall
        have HCALL := Aside0.mk hcall
        have FIN := Aside0.mk (show ∀ w', Below wr.heap.size wr w' → Below w.heap.size w w' from fun w' hb => HB.out.trans (hb.mono HB.out.size))
        clear hcall
        go_wp2_with fail
        refine HCALL.out.mono ?_
        rintro _ w' ⟨rfl, hb⟩
        have HB2 := Aside0.mk (FIN.out _ hb)
        clear hb FIN
        go_wp2_with fail
        go_ret
        exact ⟨by rw [HMI.out hq]; rfl, HB2.out⟩
      | false =>
        rw [hq] at hcall
        have HCALL := Aside0.mk hcall
        have FIN := Aside0.mk (show ∀ w', Below wr.heap.size wr w' → Below w.heap.size w w' from fun w' hb => HB.out.trans (hb.mono HB.out.size))
        clear hcall
        go_wp2_with fail
        refine HCALL.out.mono ?_
        rintro _ w' ⟨rfl, hb⟩
        have HB2 := Aside0.mk (FIN.out _ hb)
        have HQ := Aside0.mk hq
        clear hb FIN hq
        have hwi : wrap64 ((i : Int) + 1) = ((i + 1 : Nat) : Int) := by have := HN.out; unfold wrap64; omega
        have HIN := Aside0.mk hin
        clear hin hin2 d1
        go_wp2_with fail
        go_roundw
        case rel =>
          exact ⟨i + 1, by rw [hwi], Aside0.mk (by have := HIN.out; omega), Aside0.mk (fun j hj => by
            by_cases e : j = i
            · subst e; rw [HY.out]; exact HQ.out
            · exact HJ.out j (by omega)), HB2⟩
        case measure => have := HIN.out; rw [hwi]; simp [intOf]; omega
    · have d1 : decide ((i : Int) < (n : Int)) = false := decide_eq_false (by omega)
      have hin2 : ¬ (i : Int) < (n : Int) := by omega
      have FIN := Aside0.mk (show idxI p es = -1 from HZ.out (fun j hj => HJ.out j (by omega)))
      go_wp2_with fail
      go_ret
      exact ⟨by rw [FIN.out]; rfl, HB.out⟩

theorem at1S (id : Int) (B : Nat) (w : World) (hB : B < w.heap.size) (hc : w.cell? ⟨B, 0, none⟩ = some (.int .i64 id)) : PredS 48 B (fun x => decide (x.f0 = id)) w := by
  intro W x hb
  have hcW : W.cell? ⟨B, 0, none⟩ = some (.int .i64 id) := (hb.cell (p := ⟨B, 0, none⟩) hB).trans hc
  have hne : B ≠ W.heap.size := by have := hb.size; omega
  have HB := Aside0.mk (below_alloc (Below.refl W.heap.size W) (Obj.cells (cs55 x).toArray 55))
  have hcA : (W.alloc (Obj.cells #[.int .i64 x.f0, .int .i64 x.f1, .int .i64 x.f2, .string x.f3] 55)).cell? ⟨B, 0, none⟩ = some (.int .i64 id) := (HB.out.cell (p := ⟨B, 0, none⟩) (Nat.lt_of_lt_of_le hB hb.size)).trans hcW
  clear hb hc hB hcW hne
  unfold cs55 at *
  go_enter Try.func48, Try.ntmps48
  go_wp2
  all_goals (go_ret; exact ⟨by rw [show (decide (x.f0 = id)) = (x.f0 == id) from rfl]; rfl, HB.out⟩)
theorem late1S (now : Int) (B : Nat) (w : World) (hB : B < w.heap.size) (hc : w.cell? ⟨B, 0, none⟩ = some (.int .i64 now)) : PredS 47 B (fun x => decide (x.f2 > now)) w := by
  intro W x hb
  have hcW : W.cell? ⟨B, 0, none⟩ = some (.int .i64 now) := (hb.cell (p := ⟨B, 0, none⟩) hB).trans hc
  have hne : B ≠ W.heap.size := by have := hb.size; omega
  have HB := Aside0.mk (below_alloc (Below.refl W.heap.size W) (Obj.cells (cs55 x).toArray 55))
  have hcA : (W.alloc (Obj.cells #[.int .i64 x.f0, .int .i64 x.f1, .int .i64 x.f2, .string x.f3] 55)).cell? ⟨B, 0, none⟩ = some (.int .i64 now) := (HB.out.cell (p := ⟨B, 0, none⟩) (Nat.lt_of_lt_of_le hB hb.size)).trans hcW
  clear hb hc hB hcW hne
  unfold cs55 at *
  go_enter Try.func47, Try.ntmps47
  go_wp2
  all_goals (go_ret; exact ⟨by simp_all, HB.out⟩)
theorem open1S (now : Int) (B : Nat) (w : World) (hB : B < w.heap.size) (hc : w.cell? ⟨B, 0, none⟩ = some (.int .i64 now)) : PredS 33 B (fun x => decide (max x.f2 x.f0 ≥ now)) w := by
  intro W x hb
  have hcW : W.cell? ⟨B, 0, none⟩ = some (.int .i64 now) := (hb.cell (p := ⟨B, 0, none⟩) hB).trans hc
  have hne : B ≠ W.heap.size := by have := hb.size; omega
  have HB := Aside0.mk (below_alloc (Below.refl W.heap.size W) (Obj.cells (cs55 x).toArray 55))
  have hcA : (W.alloc (Obj.cells #[.int .i64 x.f0, .int .i64 x.f1, .int .i64 x.f2, .string x.f3] 55)).cell? ⟨B, 0, none⟩ = some (.int .i64 now) := (HB.out.cell (p := ⟨B, 0, none⟩) (Nat.lt_of_lt_of_le hB hb.size)).trans hcW
  clear hb hc hB hcW hne
  unfold cs55 at *
  go_enter Try.func33, Try.ntmps33
  go_wp2
  all_goals (go_ret; exact ⟨by first | rfl | (simp_all [Int.max_def]; done) | (simp_all [Int.max_def]; split <;> omega), HB.out⟩)
theorem idx_callsS (f B : Nat) (p : S55 → Bool) (w : World) (A : Option Addr) (c : Nat) (es : List S55) (hp : PredS f B p w) (ef : Enters Try.prog f) (hC : Kd.C k55 w A es.length es) :
    Calls Try.prog 46 #[.slice A es.length c, .func (.func f) #[] #[.pointer (some ⟨B, 0, none⟩)]] w fun e w' => e = .returned (.int .i64 (idxS p es)) ∧ Below w.heap.size w w' := by
  have HC := Aside0.mk hC
  have HP := Aside0.mk hp
  have HN := Aside0.mk (Kd.C_max hC)
  have HM := Aside0.mk (show ∀ i, (∀ j, j < i → p (rd_T55 es (j : Nat)) = false) → i < es.length → p (rd_T55 es (i : Nat)) = true → idxS p es = (i : Int) from fun i h1 h2 h3 => by
    have : es.findIdx? p = some i := by
      rw [List.findIdx?_eq_some_iff_getElem]
      refine ⟨h2, ?_, fun j hj => ?_⟩
      · have : rd_T55 es (i : Nat) = es[i] := by simp [rd_T55, h2]
        rw [← this]; exact h3
      · have := h1 j hj
        have e : rd_T55 es (j : Nat) = es[j]'(by omega) := by simp [rd_T55, show j < es.length by omega]
        rw [← e, this]; simp
    simp [idxS, this])
  have HZ := Aside0.mk (show (∀ j, j < es.length → p (rd_T55 es (j : Nat)) = false) → idxS p es = -1 from fun h => by
    have : es.findIdx? p = none := by
      rw [List.findIdx?_eq_none_iff]
      intro x hx
      obtain ⟨j, hj, rfl⟩ := List.getElem_of_mem hx
      have := h j hj
      have e : rd_T55 es (j : Nat) = es[j] := by simp [rd_T55, hj]
      rw [← e]; exact this
    simp [idxS, this])
  have ef' : ∀ args w, (callFunc f args).run Try.prog w = .ok (.enter f args) w := ef
  clear hC hp ef
  generalize hL : es.length = n at *
  go_enter Try.func46, Try.ntmps46
  go_wp2
  have V0 := Aside0.mk (Below.refl w.heap.size w)
  go_loopw [5, 8] (fun _ v8 wr => ∃ (i : Nat), v8 = .int .i64 (i : Int) ∧ Aside0 (i ≤ n) ∧ Aside0 (∀ j, j < i → p (rd_T55 es (j : Nat)) = false) ∧ Aside0 (Below w.heap.size w wr)) (fun _ v8 _ => n - (intOf v8).toNat)
  case atStart => exact ⟨0, rfl, Aside0.mk (Nat.zero_le _), Aside0.mk (fun j hj => absurd hj (Nat.not_lt_zero _)), V0⟩
  case round =>
    obtain ⟨i, rfl, HI, HJ, HB⟩ := hrel
    by_cases hin : i < n
    · have d1 : decide ((i : Int) < (n : Int)) = true := decide_eq_true (by omega)
      have hC2 := Kd.C_below HC.out HB.out
      obtain ⟨ad, rfl, c0, c1, c2, c3⟩ := at_T55 hC2 (i : Int) (by omega) (by omega)
      have hcall := HP.out wr (rd_T55 es (i : Int)) HB.out
      have hm := HM.out i HJ.out hin
      rw [Int.toNat_natCast] at c0 c1 c2 c3
      generalize hy : rd_T55 es (i : Int) = y at c0 c1 c2 c3 hcall hm
      have HY := Aside0.mk hy
      have HMI := Aside0.mk hm
      clear hy hC2 hm
      have hin2 : (i : Int) < (n : Int) := by omega
      have hi0 : (0 : Int) ≤ (i : Int) := by omega
      cases hq : p y with
      | true =>
        rw [hq] at hcall
        have HCALL := Aside0.mk hcall
        have FIN := Aside0.mk (show ∀ w', Below wr.heap.size wr w' → Below w.heap.size w w' from fun w' hb => HB.out.trans (hb.mono HB.out.size))
        clear hcall
        go_wp2_with fail
        refine HCALL.out.mono ?_
        rintro _ w' ⟨rfl, hb⟩
        have HB2 := Aside0.mk (FIN.out _ hb)
        clear hb FIN
        go_wp2_with fail
        go_ret
        exact ⟨by rw [HMI.out hq]; rfl, HB2.out⟩
      | false =>
        rw [hq] at hcall
        have HCALL := Aside0.mk hcall
        have FIN := Aside0.mk (show ∀ w', Below wr.heap.size wr w' → Below w.heap.size w w' from fun w' hb => HB.out.trans (hb.mono HB.out.size))
        clear hcall
        go_wp2_with fail
        refine HCALL.out.mono ?_
        rintro _ w' ⟨rfl, hb⟩
        have HB2 := Aside0.mk (FIN.out _ hb)
        have HQ := Aside0.mk hq
        clear hb FIN hq
        have hwi : wrap64 ((i : Int) + 1) = ((i + 1 : Nat) : Int) := by have := HN.out; unfold wrap64; omega
        have HIN := Aside0.mk hin
        clear hin hin2 d1
        go_wp2_with fail
        go_roundw
        case rel =>
          exact ⟨i + 1, by rw [hwi], Aside0.mk (by have := HIN.out; omega), Aside0.mk (fun j hj => by
            by_cases e : j = i
            · subst e; rw [HY.out]; exact HQ.out
            · exact HJ.out j (by omega)), HB2⟩
        case measure => have := HIN.out; rw [hwi]; simp [intOf]; omega
    · have d1 : decide ((i : Int) < (n : Int)) = false := decide_eq_false (by omega)
      have hin2 : ¬ (i : Int) < (n : Int) := by omega
      have FIN := Aside0.mk (show idxS p es = -1 from HZ.out (fun j hj => HJ.out j (by omega)))
      go_wp2_with fail
      go_ret
      exact ⟨by rw [FIN.out]; rfl, HB.out⟩

end Go.Proofs.Ytahkokbfghifhaa.PS
