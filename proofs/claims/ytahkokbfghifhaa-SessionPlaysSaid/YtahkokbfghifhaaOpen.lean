/- Open: refused, or a row behind the others (while there are less than eight). -/
import Derived.Test.YtahkokbfghifhaaOpR
import Derived.Test.YtahkokbfghifhaaProg
import Derived.Below
import Derived.Deep.Draws
import Derived.Deep.AppendLies
import Derived.Maps.AppendAt
import Derived.OwnWalk
import Derived.Laws.BytesArg
import Derived.Laws.MakeOwn
import Derived.Laws.OwnMore
import Derived.Deep.OwnRows
import Derived.Tactics
import Derived.Lib.ConvBytes
import Derived.Laws.Slices
import Derived.WalkKit
import Derived.KernelRfl
import Derived.RowKit3
import Derived.Deep.LoopGhost
import Derived.Deep.QuietTactic
import Derived.BigQuiet
import Derived.WideLaws
import Derived.Deep.DeepCutAuto
import Derived.Deep.CutBlock
import Derived.Deep.RegionHeld3
import Derived.Laws.Rows
import Derived.Lib.AppendStr
import Derived.ArgAppend
import Derived.Laws.IdiomCopy
import Derived.OrdersHeld
import Derived.Laws.BitsLemmas
import Derived.RowKit
import Derived.Test.YtahkokbfghifhaaWWords
import Derived.Test.YtahkokbfghifhaaWLast
import Derived.Test.YtahkokbfghifhaaWTab
import Derived.Test.YtahkokbfghifhaaWFour
import Derived.Test.YtahkokbfghifhaaWQPut
import Derived.Test.YtahkokbfghifhaaWApart
import Derived.Test.YtahkokbfghifhaaWArr
import Derived.Test.YtahkokbfghifhaaWZeros
import Derived.Test.YtahkokbfghifhaaWFoot
import Derived.Test.YtahkokbfghifhaaWKept
import Derived.Test.YtahkokbfghifhaaWShare
import Derived.Test.YtahkokbfghifhaaWN
import Derived.Test.YtahkokbfghifhaaWFootNe
import Derived.Test.YtahkokbfghifhaaWAt
import Derived.Test.YtahkokbfghifhaaWEqStruct
import Derived.Test.YtahkokbfghifhaaWRepsOne
import Derived.Test.YtahkokbfghifhaaWInv
import Derived.Test.YtahkokbfghifhaaWInvWords
import Derived.Test.YtahkokbfghifhaaWGuard
import Derived.Test.YtahkokbfghifhaaWNEv
import Derived.Test.YtahkokbfghifhaaWMore
namespace Go.Proofs.Ytahkokbfghifhaa.PS
open Go.RowKit Go.Proofs.YtahkokbfghifhaaW.PrintWords Go.Proofs.YtahkokbfghifhaaW.PrintLast Go.Proofs.YtahkokbfghifhaaW.PrintMore
set_option linter.unusedVariables false
set_option linter.unusedSimpArgs false
set_option maxHeartbeats 4000000
set_option maxRecDepth 100000

open Go.Proofs.Ytahkokbfghifhaa.Reg

/-- Whether Open is refused. -/
def openNoI (es : List S45) (now : Int) : Bool := decide (now < 1) || es.any (fun r => decide (max r.f2 r.f0 ≥ now))
theorem open_noI {w : World} {ok : Nat → Prop} {g : Nat} {es : List S45} (h : TblI w ok g es) (now : Int) (hno : openNoI es now = true) :
    Calls Try.prog 8 #[.pointer (some ⟨g, 0, none⟩), .int .i64 now] w fun e w' => e = .returned (.bool false) ∧ TblI w' (fun k => ok k ∨ w.heap.size ≤ k) g es ∧ Kept w w' ok ∧ Below 0 w w' := by
  have hmf : ∀ (fn : Fn) (first cap : Array Value) (w : World), (Instr.makeFunc fn first cap).run Try.prog w = .ok (.func fn first cap) w := fun _ _ _ _ => rfl
  have hb := below_alloc (Below.refl w.heap.size w) (Obj.cells #[.int .i64 now] 3)
  have h2 := h.below hb
  have hcell : (w.alloc (Obj.cells #[.int .i64 now] 3)).cell? ⟨w.heap.size, 0, none⟩ = some (.int .i64 now) := by simp
  have hlt : w.heap.size < (w.alloc (Obj.cells #[.int .i64 now] 3)).heap.size := by show _ < (w.heap.push _).size; rw [Array.size_push]; omega
  obtain ⟨A, c, c0, hc, hr⟩ := h2.cells
  have HT := Aside0.mk h
  have HB := Aside0.mk hb
  by_cases hn : now < 1
  · have d0 : decide (now < 1) = true := decide_eq_true hn
    clear hr h h2 hb hlt hno hn hc
    go_enter Try.func8, Try.ntmps8
    go_wp2_with fail
    go_ret
    exact ⟨rfl, (HT.out.below HB.out).mono (fun k hk => .inl hk), Kept.below (Kept.refl _ _) HB.out, HB.out.mono (Nat.zero_le _)⟩
  · have d0 : decide (now < 1) = false := decide_eq_false hn
    have hcon := con_callsI 23 w.heap.size _ _ A c es (open1I now w.heap.size _ hlt hcell) (enters_of Try.func23 (by kernel_rfl) rfl) hr
    unfold openNoI at hno
    rw [d0, Bool.false_or] at hno
    rw [hno] at hcon
    have HC := Aside0.mk hcon
    clear hr h h2 hb hlt hno hn hc hcon hcell
    go_enter Try.func8, Try.ntmps8
    go_wp2_with fail
    refine HC.out.mono ?_
    rintro _ w' ⟨rfl, hb⟩
    have HB2 := Aside0.mk (HB.out.trans (hb.mono HB.out.size))
    clear hb
    go_wp2_with fail
    go_ret
    exact ⟨rfl, (HT.out.below HB2.out).mono (fun k hk => .inl hk), Kept.below (Kept.refl _ _) HB2.out, HB2.out.mono (Nat.zero_le _)⟩
theorem open_yesI {w : World} {ok : Nat → Prop} {g : Nat} {es : List S45} (h : TblI w ok g es) (now : Int) (hno : openNoI es now = false) (hlen : es.length < 8) :
    Calls Try.prog 8 #[.pointer (some ⟨g, 0, none⟩), .int .i64 now] w fun e w' => e = .returned (.bool true) ∧ TblI w' (fun k => ok k ∨ w.heap.size ≤ k) g (es ++ [⟨now, 0, now, (0 : Int)⟩]) ∧ Kept w w' ok ∧ Below 0 w w' := by
  have hmf : ∀ (fn : Fn) (first cap : Array Value) (w : World), (Instr.makeFunc fn first cap).run Try.prog w = .ok (.func fn first cap) w := fun _ _ _ _ => rfl
  have hb := below_alloc (Below.refl w.heap.size w) (Obj.cells #[.int .i64 now] 3)
  have hbl := h.bound
  have h2 := hbl.below hb
  have hcell : (w.alloc (Obj.cells #[.int .i64 now] 3)).cell? ⟨w.heap.size, 0, none⟩ = some (.int .i64 now) := by simp
  have hnew := heap_alloc_new w (Obj.cells #[.int .i64 now] 3)
  have hlt : w.heap.size < (w.alloc (Obj.cells #[.int .i64 now] 3)).heap.size := by show _ < (w.heap.push _).size; rw [Array.size_push]; omega
  obtain ⟨A, c, c0, hc, hr⟩ := h2.cells
  unfold openNoI at hno
  rw [Bool.or_eq_false_iff] at hno
  obtain ⟨d0, hno⟩ := hno
  have hcon := con_callsI 23 w.heap.size _ _ A c es (open1I now w.heap.size _ hlt hcell) (enters_of Try.func23 (by kernel_rfl) rfl) hr
  rw [hno] at hcon
  have HC := Aside0.mk hcon
  have HT := Aside0.mk h2
  have HB := Aside0.mk hb
  have HN := Aside0.mk (And.intro hnew hlt)
  have HL := Aside0.mk hlen
  have d1 : decide ((es.length : Int) = 8) = false := decide_eq_false (by omega)
  have d2 : ((es.length : Int) == 8) = false := by simp; omega
  clear hr h h2 hb hlt hno hc hcon hcell hbl hnew hlen
  go_enter Try.func8, Try.ntmps8
  go_wp2_with fail
  refine HC.out.mono ?_
  rintro _ w1 ⟨rfl, hb⟩
  have hT1 := HT.out.below hb
  obtain ⟨A1, c1, cg, -, -⟩ := hT1.cells
  have HT1 := Aside0.mk hT1
  have HB1 := Aside0.mk (HB.out.trans (hb.mono HB.out.size))
  have HX := Aside0.mk ((hb.block w.heap.size HN.out.2).trans HN.out.1)
  clear hb hT1
  go_wp2_with fail
  obtain ⟨hg, v0, hh, hR⟩ := HT1.out
  have hI : IOI w1 (fun k => ok k ∧ k < w.heap.size) g w.heap.size es v0 now w1 := ⟨⟨by have := HL.out; omega, (Array.getElem?_eq_some_iff.1 hh).1⟩, hg, hh, HX.out, Kd.R_mono (Kd.R_bound hR) (fun k hk => ⟨⟨hk.1.1, hk.2.2.1⟩, hk.1.2⟩), Kept.refl _ _, Below.refl _ _⟩
  have HID := Aside0.mk hI
  clear hI hg hh hR
  refine regionOI (by kernel_rfl) w1 _ g w.heap.size es v0 now _ w1 HID.out rfl rfl rfl ?_
  intro a2 w3 hA ⟨hT, hK, hB⟩
  have HT3 := Aside0.mk (hT.mono (ok' := fun k => ok k ∨ w.heap.size ≤ k) (fun k hk => by
    rcases hk with hk | hk
    · exact .inl hk.1
    · exact .inr (Nat.le_trans HB1.out.size hk)))
  have HK := Aside0.mk (show Kept w w3 ok from ⟨Nat.le_trans HB1.out.size hK.1, fun k hk hn => (hK.2 k (Nat.lt_of_lt_of_le hk HB1.out.size) (fun h => hn h.1)).trans (HB1.out.block k hk)⟩)
  have HB3 := Aside0.mk ((HB1.out.mono (Nat.zero_le _)).trans hB)
  clear hT hK hB HID
  rw [hA.frame hinOI]
  clear hA
  simp only [List.range_succ, List.range_zero, List.nil_append, List.cons_append, foldO, dstOI, List.getD_cons_zero, List.getD_cons_succ, Act.put]
  generalize slotO dstOI a2 0 = y0
  generalize slotO dstOI a2 1 = y1
  generalize slotO dstOI a2 2 = y2
  generalize slotO dstOI a2 3 = y3
  generalize slotO dstOI a2 4 = y4
  generalize slotO dstOI a2 5 = y5
  generalize slotO dstOI a2 6 = y6
  generalize slotO dstOI a2 7 = y7
  generalize slotO dstOI a2 8 = y8
  generalize slotO dstOI a2 9 = y9
  generalize slotO dstOI a2 10 = y10
  generalize slotO dstOI a2 11 = y11
  clear a2
  go_wp2_with fail
  go_ret
  exact ⟨rfl, HT3.out, HK.out, HB3.out⟩

/-- Whether Open is refused. -/
def openNoS (es : List S55) (now : Int) : Bool := decide (now < 1) || es.any (fun r => decide (max r.f2 r.f0 ≥ now))
theorem open_noS {w : World} {ok : Nat → Prop} {g : Nat} {es : List S55} (h : TblS w ok g es) (now : Int) (hno : openNoS es now = true) :
    Calls Try.prog 11 #[.pointer (some ⟨g, 0, none⟩), .int .i64 now] w fun e w' => e = .returned (.bool false) ∧ TblS w' (fun k => ok k ∨ w.heap.size ≤ k) g es ∧ Kept w w' ok ∧ Below 0 w w' := by
  have hmf : ∀ (fn : Fn) (first cap : Array Value) (w : World), (Instr.makeFunc fn first cap).run Try.prog w = .ok (.func fn first cap) w := fun _ _ _ _ => rfl
  have hb := below_alloc (Below.refl w.heap.size w) (Obj.cells #[.int .i64 now] 3)
  have h2 := h.below hb
  have hcell : (w.alloc (Obj.cells #[.int .i64 now] 3)).cell? ⟨w.heap.size, 0, none⟩ = some (.int .i64 now) := by simp
  have hlt : w.heap.size < (w.alloc (Obj.cells #[.int .i64 now] 3)).heap.size := by show _ < (w.heap.push _).size; rw [Array.size_push]; omega
  obtain ⟨A, c, c0, hc, hr⟩ := h2.cells
  have HT := Aside0.mk h
  have HB := Aside0.mk hb
  by_cases hn : now < 1
  · have d0 : decide (now < 1) = true := decide_eq_true hn
    clear hr h h2 hb hlt hno hn hc
    go_enter Try.func11, Try.ntmps11
    go_wp2_with fail
    go_ret
    exact ⟨rfl, (HT.out.below HB.out).mono (fun k hk => .inl hk), Kept.below (Kept.refl _ _) HB.out, HB.out.mono (Nat.zero_le _)⟩
  · have d0 : decide (now < 1) = false := decide_eq_false hn
    have hcon := con_callsS 33 w.heap.size _ _ A c es (open1S now w.heap.size _ hlt hcell) (enters_of Try.func33 (by kernel_rfl) rfl) hr
    unfold openNoS at hno
    rw [d0, Bool.false_or] at hno
    rw [hno] at hcon
    have HC := Aside0.mk hcon
    clear hr h h2 hb hlt hno hn hc hcon hcell
    go_enter Try.func11, Try.ntmps11
    go_wp2_with fail
    refine HC.out.mono ?_
    rintro _ w' ⟨rfl, hb⟩
    have HB2 := Aside0.mk (HB.out.trans (hb.mono HB.out.size))
    clear hb
    go_wp2_with fail
    go_ret
    exact ⟨rfl, (HT.out.below HB2.out).mono (fun k hk => .inl hk), Kept.below (Kept.refl _ _) HB2.out, HB2.out.mono (Nat.zero_le _)⟩
theorem open_yesS {w : World} {ok : Nat → Prop} {g : Nat} {es : List S55} (h : TblS w ok g es) (now : Int) (hno : openNoS es now = false) (hlen : es.length < 8) :
    Calls Try.prog 11 #[.pointer (some ⟨g, 0, none⟩), .int .i64 now] w fun e w' => e = .returned (.bool true) ∧ TblS w' (fun k => ok k ∨ w.heap.size ≤ k) g (es ++ [⟨now, 0, now, ByteArray.empty⟩]) ∧ Kept w w' ok ∧ Below 0 w w' := by
  have hmf : ∀ (fn : Fn) (first cap : Array Value) (w : World), (Instr.makeFunc fn first cap).run Try.prog w = .ok (.func fn first cap) w := fun _ _ _ _ => rfl
  have hb := below_alloc (Below.refl w.heap.size w) (Obj.cells #[.int .i64 now] 3)
  have hbl := h.bound
  have h2 := hbl.below hb
  have hcell : (w.alloc (Obj.cells #[.int .i64 now] 3)).cell? ⟨w.heap.size, 0, none⟩ = some (.int .i64 now) := by simp
  have hnew := heap_alloc_new w (Obj.cells #[.int .i64 now] 3)
  have hlt : w.heap.size < (w.alloc (Obj.cells #[.int .i64 now] 3)).heap.size := by show _ < (w.heap.push _).size; rw [Array.size_push]; omega
  obtain ⟨A, c, c0, hc, hr⟩ := h2.cells
  unfold openNoS at hno
  rw [Bool.or_eq_false_iff] at hno
  obtain ⟨d0, hno⟩ := hno
  have hcon := con_callsS 33 w.heap.size _ _ A c es (open1S now w.heap.size _ hlt hcell) (enters_of Try.func33 (by kernel_rfl) rfl) hr
  rw [hno] at hcon
  have HC := Aside0.mk hcon
  have HT := Aside0.mk h2
  have HB := Aside0.mk hb
  have HN := Aside0.mk (And.intro hnew hlt)
  have HL := Aside0.mk hlen
  have d1 : decide ((es.length : Int) = 8) = false := decide_eq_false (by omega)
  have d2 : ((es.length : Int) == 8) = false := by simp; omega
  clear hr h h2 hb hlt hno hc hcon hcell hbl hnew hlen
  go_enter Try.func11, Try.ntmps11
  go_wp2_with fail
  refine HC.out.mono ?_
  rintro _ w1 ⟨rfl, hb⟩
  have hT1 := HT.out.below hb
  obtain ⟨A1, c1, cg, -, -⟩ := hT1.cells
  have HT1 := Aside0.mk hT1
  have HB1 := Aside0.mk (HB.out.trans (hb.mono HB.out.size))
  have HX := Aside0.mk ((hb.block w.heap.size HN.out.2).trans HN.out.1)
  clear hb hT1
  go_wp2_with fail
  obtain ⟨hg, v0, hh, hR⟩ := HT1.out
  have hI : IOS w1 (fun k => ok k ∧ k < w.heap.size) g w.heap.size es v0 now w1 := ⟨⟨by have := HL.out; omega, (Array.getElem?_eq_some_iff.1 hh).1⟩, hg, hh, HX.out, Kd.R_mono (Kd.R_bound hR) (fun k hk => ⟨⟨hk.1.1, hk.2.2.1⟩, hk.1.2⟩), Kept.refl _ _, Below.refl _ _⟩
  have HID := Aside0.mk hI
  clear hI hg hh hR
  refine regionOS (by kernel_rfl) w1 _ g w.heap.size es v0 now _ w1 HID.out rfl rfl rfl ?_
  intro a2 w3 hA ⟨hT, hK, hB⟩
  have HT3 := Aside0.mk (hT.mono (ok' := fun k => ok k ∨ w.heap.size ≤ k) (fun k hk => by
    rcases hk with hk | hk
    · exact .inl hk.1
    · exact .inr (Nat.le_trans HB1.out.size hk)))
  have HK := Aside0.mk (show Kept w w3 ok from ⟨Nat.le_trans HB1.out.size hK.1, fun k hk hn => (hK.2 k (Nat.lt_of_lt_of_le hk HB1.out.size) (fun h => hn h.1)).trans (HB1.out.block k hk)⟩)
  have HB3 := Aside0.mk ((HB1.out.mono (Nat.zero_le _)).trans hB)
  clear hT hK hB HID
  rw [hA.frame hinOS]
  clear hA
  simp only [List.range_succ, List.range_zero, List.nil_append, List.cons_append, foldO, dstOS, List.getD_cons_zero, List.getD_cons_succ, Act.put]
  generalize slotO dstOS a2 0 = y0
  generalize slotO dstOS a2 1 = y1
  generalize slotO dstOS a2 2 = y2
  generalize slotO dstOS a2 3 = y3
  generalize slotO dstOS a2 4 = y4
  generalize slotO dstOS a2 5 = y5
  generalize slotO dstOS a2 6 = y6
  generalize slotO dstOS a2 7 = y7
  generalize slotO dstOS a2 8 = y8
  generalize slotO dstOS a2 9 = y9
  generalize slotO dstOS a2 10 = y10
  generalize slotO dstOS a2 11 = y11
  clear a2
  go_wp2_with fail
  go_ret
  exact ⟨rfl, HT3.out, HK.out, HB3.out⟩

end Go.Proofs.Ytahkokbfghifhaa.PS
