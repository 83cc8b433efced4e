/- Open where there are eight: the least goes, a row is laid behind the others. -/
import Derived.Test.YtahkokbfghifhaaDel
import Derived.Test.YtahkokbfghifhaaOpen
import Derived.Test.YtahkokbfghifhaaProg
import Derived.Below
import Derived.Deep.Draws
import Derived.Deep.AppendLies
import Derived.Maps.AppendAt
import Derived.OwnWalk
import Derived.Laws.BytesArg
import Derived.Laws.MakeOwn
import Derived.Laws.OwnMore
import Derived.Deep.OwnRows
import Derived.Tactics
import Derived.Lib.ConvBytes
import Derived.Laws.Slices
import Derived.WalkKit
import Derived.KernelRfl
import Derived.RowKit3
import Derived.Deep.LoopGhost
import Derived.Deep.QuietTactic
import Derived.BigQuiet
import Derived.WideLaws
import Derived.Deep.DeepCutAuto
import Derived.Deep.CutBlock
import Derived.Deep.RegionHeld3
import Derived.Laws.Rows
import Derived.Lib.AppendStr
import Derived.ArgAppend
import Derived.Laws.IdiomCopy
import Derived.OrdersHeld
import Derived.Laws.BitsLemmas
import Derived.RowKit
import Derived.Test.YtahkokbfghifhaaWWords
import Derived.Test.YtahkokbfghifhaaWLast
import Derived.Test.YtahkokbfghifhaaWTab
import Derived.Test.YtahkokbfghifhaaWFour
import Derived.Test.YtahkokbfghifhaaWQPut
import Derived.Test.YtahkokbfghifhaaWApart
import Derived.Test.YtahkokbfghifhaaWArr
import Derived.Test.YtahkokbfghifhaaWZeros
import Derived.Test.YtahkokbfghifhaaWFoot
import Derived.Test.YtahkokbfghifhaaWKept
import Derived.Test.YtahkokbfghifhaaWShare
import Derived.Test.YtahkokbfghifhaaWN
import Derived.Test.YtahkokbfghifhaaWFootNe
import Derived.Test.YtahkokbfghifhaaWAt
import Derived.Test.YtahkokbfghifhaaWEqStruct
import Derived.Test.YtahkokbfghifhaaWRepsOne
import Derived.Test.YtahkokbfghifhaaWInv
import Derived.Test.YtahkokbfghifhaaWInvWords
import Derived.Test.YtahkokbfghifhaaWGuard
import Derived.Test.YtahkokbfghifhaaWNEv
import Derived.Test.YtahkokbfghifhaaWMore
namespace Go.Proofs.Ytahkokbfghifhaa.PS
open Go.RowKit Go.Proofs.YtahkokbfghifhaaW.PrintWords Go.Proofs.YtahkokbfghifhaaW.PrintLast Go.Proofs.YtahkokbfghifhaaW.PrintMore
set_option linter.unusedVariables false
set_option linter.unusedSimpArgs false
set_option maxHeartbeats 4000000
set_option maxRecDepth 100000

open Go.Proofs.Ytahkokbfghifhaa.Reg

/-- The row that goes. -/
def leastI (es : List S45) : S45 := minFromI (rd_T45 es 0) (es.drop 1)
theorem minFrom_memI : ∀ (r : List S45) (m : S45), minFromI m r = m ∨ minFromI m r ∈ r
  | [], m => .inl rfl
  | x :: r, m => by
    rcases minFrom_memI r (if ltrI x m then x else m) with h | h
    · show minFromI (if ltrI x m then x else m) r = m ∨ minFromI (if ltrI x m then x else m) r ∈ x :: r
      rw [h]
      split
      · exact .inr (List.mem_cons_self ..)
      · exact .inl rfl
    · exact .inr (List.mem_cons_of_mem _ h)
theorem least_memI (es : List S45) (h : 0 < es.length) : leastI es ∈ es := by
  unfold leastI
  rcases minFrom_memI (es.drop 1) (rd_T45 es 0) with h1 | h1
  · rw [h1]; simp [rd_T45, h]
  · exact List.mem_of_mem_drop h1
theorem least_idxI (es : List S45) (h : 0 < es.length) : 0 ≤ idxI (fun x => decide (x.f0 = (leastI es).f0)) es := by
  have hm := least_memI es h
  unfold idxI
  cases e : es.findIdx? (fun x => decide (x.f0 = (leastI es).f0)) with
  | none =>
    rw [List.findIdx?_eq_none_iff] at e
    have := e _ hm
    simp at this
  | some i => show (0 : Int) ≤ (i : Int); omega
theorem open_fullI {w : World} {ok : Nat → Prop} {g : Nat} {es : List S45} (h : TblI w ok g es) (now : Int) (hno : openNoI es now = false) (hlen : es.length = 8) :
    Calls Try.prog 8 #[.pointer (some ⟨g, 0, none⟩), .int .i64 now] w fun e w' => e = .returned (.bool true) ∧ TblI w' (fun k => ok k ∨ w.heap.size ≤ k) g (es.filter (fun x => !decide (x.f0 = (leastI es).f0)) ++ [⟨now, 0, now, (0 : Int)⟩]) ∧ Kept w w' ok ∧ Below 0 w w' := by
  have hmf : ∀ (fn : Fn) (first cap : Array Value) (w : World), (Instr.makeFunc fn first cap).run Try.prog w = .ok (.func fn first cap) w := fun _ _ _ _ => rfl
  have hb := below_alloc (Below.refl w.heap.size w) (Obj.cells #[.int .i64 now] 3)
  have hbl := h.bound
  have h2 := hbl.below hb
  have hcell : (w.alloc (Obj.cells #[.int .i64 now] 3)).cell? ⟨w.heap.size, 0, none⟩ = some (.int .i64 now) := by simp
  have hnew := heap_alloc_new w (Obj.cells #[.int .i64 now] 3)
  have hlt : w.heap.size < (w.alloc (Obj.cells #[.int .i64 now] 3)).heap.size := by show _ < (w.heap.push _).size; rw [Array.size_push]; omega
  obtain ⟨A, c, c0, hc, hr⟩ := h2.cells
  unfold openNoI at hno
  rw [Bool.or_eq_false_iff] at hno
  obtain ⟨d0, hno⟩ := hno
  have hcon := con_callsI 23 w.heap.size _ _ A c es (open1I now w.heap.size _ hlt hcell) (enters_of Try.func23 (by kernel_rfl) rfl) hr
  rw [hno] at hcon
  have HC := Aside0.mk hcon
  have HT := Aside0.mk h2
  have HB := Aside0.mk hb
  have HN := Aside0.mk (And.intro hnew hlt)
  have HL := Aside0.mk hlen
  have HIX := Aside0.mk (least_idxI es (by omega))
  generalize hle : (leastI es) = M at *
  have HLE := Aside0.mk hle
  have d2 : ((es.length : Int) == 8) = true := by rw [hlen]; rfl
  clear hr h h2 hb hlt hno hc hcon hcell hbl hnew hlen hle
  go_enter Try.func8, Try.ntmps8
  go_wp2_with fail
  refine HC.out.mono ?_
  rintro _ w1 ⟨rfl, hb⟩
  have hT1 := HT.out.below hb
  have HT1 := Aside0.mk hT1
  have HB1 := Aside0.mk (HB.out.trans (hb.mono HB.out.size))
  have HX := Aside0.mk ((hb.block w.heap.size HN.out.2).trans HN.out.1)
  obtain ⟨hg, v0, hh, hR⟩ := hT1
  obtain ⟨gb, cap, rfl, -, hgbl, -⟩ := Kd.R_form hR (by have := HL.out; omega)
  have HGB := Aside0.mk (show (ok gb ∧ gb < w.heap.size) ∧ gb ≠ g from hR.1 gb rfl)
  have cg : w1.cell? ⟨g, 0, none⟩ = some (.slice (some ⟨gb, 0, none⟩) es.length cap) := by simp [World.cell?, hh]
  have hmin := min_callsI w1 (some ⟨gb, 0, none⟩) cap es (Kd.R_reads' hR).2.2 (by have := HL.out; omega)
  rw [show minFromI (rd_T45 es 0) (es.drop 1) = M from HLE.out] at hmin
  unfold cs45 at hmin
  have HMIN := Aside0.mk hmin
  have HH1 := Aside0.mk hh
  have HR1 := Aside0.mk hR
  have HG := Aside0.mk hg
  clear hb hh hR hmin hgbl hg HT1 HC HT
  go_wp2_with fail
  refine HMIN.out.mono ?_
  rintro _ w2 ⟨rfl, hb2⟩
  have hb3 := below_alloc (Below.refl w2.heap.size w2) (Obj.cells (cs45 M).toArray 45)
  have hb23 := hb2.trans (hb3.mono hb2.size)
  have HR3 := Aside0.mk (Kd.R_below HR1.out hb23)
  have HB3 := Aside0.mk (HB1.out.trans (hb23.mono HB1.out.size))
  have HH3 := Aside0.mk ((hb23.block g (Array.getElem?_eq_some_iff.1 HH1.out).1).trans HH1.out)
  have HX3 := Aside0.mk ((hb23.block w.heap.size (Array.getElem?_eq_some_iff.1 HX.out).1).trans HX.out)
  have hold := heap_alloc_new w2 (Obj.cells (cs45 M).toArray 45)
  have hlt3 : w2.heap.size < (w2.alloc (Obj.cells (cs45 M).toArray 45)).heap.size := by show _ < (w2.heap.push _).size; rw [Array.size_push]; omega
  have cg3 : (w2.alloc (Obj.cells #[.int .i64 M.f0, .int .i64 M.f1, .int .i64 M.f2, .int .i64 M.f3] 45)).cell? ⟨g, 0, none⟩ = some (.slice (some ⟨gb, 0, none⟩) es.length cap) := by
    have := HH3.out
    simp only [cs45] at this
    simp [World.cell?, this]
  have hdel := del_callsI 29 w2.heap.size (fun x => decide (x.f0 = M.f0)) (w2.alloc (Obj.cells (cs45 M).toArray 45)) _ gb cap es (open3I M w2.heap.size _ hold) (enters_of Try.func29 (by kernel_rfl) rfl) hlt3 (by have := HGB.out; have := HB1.out.size; have := hb2.size; omega) HR3.out HIX.out
  have HDEL := Aside0.mk hdel
  clear hdel hb2 hb3 hb23 hold hlt3 HR1 HH1 HX HMIN cg
  go_wp2_with fail
  refine HDEL.out.mono ?_
  clear HDEL
  rintro _ w4 ⟨rfl, hR4, hK4, hB4⟩
  generalize hes : (es.filter (fun x => !decide (x.f0 = M.f0))) = es' at *
  have hes' : es'.length ≤ 8 := by rw [← hes, ← HL.out]; exact List.length_filter_le _ _
  have HES := Aside0.mk hes'
  have HESQ := Aside0.mk hes
  have hh4 := (hK4.2 g (Array.getElem?_eq_some_iff.1 HH3.out).1 (fun he => HGB.out.2 he.symm)).trans HH3.out
  have hx4 := (hK4.2 w.heap.size (Array.getElem?_eq_some_iff.1 HX3.out).1 (fun he => by have := HGB.out; omega)).trans HX3.out
  have hcell : w4.cell? ⟨g, 0, none⟩ = some (.slice (some ⟨gb, 0, none⟩) es.length cap) := by simp [World.cell?, hh4]
  have hfz : w4.frozen? ⟨g, 0, none⟩ = false := by simp [World.frozen?, hh4]
  have HR4 := Aside0.mk hR4
  have HH4 := Aside0.mk hh4
  have HX4 := Aside0.mk hx4
  have HK4 := Aside0.mk (show Kept w w4 ok from ⟨Nat.le_trans HB3.out.size hK4.1, fun k hk hn => (hK4.2 k (Nat.lt_of_lt_of_le hk HB3.out.size) (fun he => hn (he ▸ HGB.out.1.1))).trans (HB3.out.block k hk)⟩)
  have HB4 := Aside0.mk ((HB3.out.mono (Nat.zero_le _)).trans hB4)
  clear hR4 hh4 hx4 hK4 hB4 hes hes' HR3 HH3 HX3 HB3 cg3
  go_wp2_with fail
  have HH5 := Aside0.mk (set_field0 HH4.out (.slice (some ⟨gb, 0, none⟩) es'.length cap))
  have HX5 := Aside0.mk (show (w4.setCell ⟨g, 0, none⟩ (.slice (some ⟨gb, 0, none⟩) es'.length cap)).heap[w.heap.size]? = _ from (Below.heap_setCell w4 ⟨g, 0, none⟩ _ w.heap.size (by have := HG.out.2; show w.heap.size ≠ g; omega)).trans HX4.out)
  have HR5 := Aside0.mk (Kd.R_far (p := ⟨g, 0, none⟩) HR4.out (fun k hk => hk.2) (.slice (some ⟨gb, 0, none⟩) es'.length cap))
  have HK5 := Aside0.mk (Kept.setCell HK4.out (p := ⟨g, 0, none⟩) (.inl HG.out.1) (.slice (some ⟨gb, 0, none⟩) es'.length cap))
  have HB5 := Aside0.mk (Below.setCell HB4.out (p := ⟨g, 0, none⟩) (Nat.zero_le _) (.slice (some ⟨gb, 0, none⟩) es'.length cap))
  generalize w4.setCell ⟨g, 0, none⟩ (.slice (some ⟨gb, 0, none⟩) es'.length cap) = w5 at *
  clear hcell hfz HH4 HX4 HR4 HK4 HB4
  have hI : IOI w5 (fun k => ok k ∧ k < w.heap.size) g w.heap.size es' (.slice (some ⟨gb, 0, none⟩) es'.length cap) now w5 := ⟨⟨by have := HES.out; omega, (Array.getElem?_eq_some_iff.1 HH5.out).1⟩, HG.out, HH5.out, HX5.out, Kd.R_mono (Kd.R_bound HR5.out) (fun k hk => ⟨⟨hk.1.1, hk.2.2.1⟩, hk.1.2⟩), Kept.refl _ _, Below.refl _ _⟩
  have HID := Aside0.mk hI
  clear hI
  refine regionOI (by kernel_rfl) w5 _ g w.heap.size es' _ now _ w5 HID.out rfl rfl rfl ?_
  intro a2 w6 hA ⟨hT, hK, hB⟩
  have HT3 := Aside0.mk (hT.mono (ok' := fun k => ok k ∨ w.heap.size ≤ k) (fun k hk => by
    rcases hk with hk | hk
    · exact .inl hk.1
    · exact .inr (Nat.le_trans HK5.out.1 hk)))
  have HK := Aside0.mk (show Kept w w6 ok from ⟨Nat.le_trans HK5.out.1 hK.1, fun k hk hn => (hK.2 k (Nat.lt_of_lt_of_le hk HK5.out.1) (fun h => hn h.1)).trans (HK5.out.2 k hk hn)⟩)
  have HB6 := Aside0.mk (HB5.out.trans hB)
  clear hT hK hB HID
  rw [hA.frame hinOI]
  clear hA
  simp only [List.range_succ, List.range_zero, List.nil_append, List.cons_append, foldO, dstOI, List.getD_cons_zero, List.getD_cons_succ, Act.put]
  generalize slotO dstOI a2 0 = y0
  generalize slotO dstOI a2 1 = y1
  generalize slotO dstOI a2 2 = y2
  generalize slotO dstOI a2 3 = y3
  generalize slotO dstOI a2 4 = y4
  generalize slotO dstOI a2 5 = y5
  generalize slotO dstOI a2 6 = y6
  generalize slotO dstOI a2 7 = y7
  generalize slotO dstOI a2 8 = y8
  generalize slotO dstOI a2 9 = y9
  generalize slotO dstOI a2 10 = y10
  generalize slotO dstOI a2 11 = y11
  clear a2
  go_wp2_with fail
  go_ret
  exact ⟨rfl, by rw [HESQ.out]; exact HT3.out, HK.out, HB6.out⟩

/-- The row that goes. -/
def leastS (es : List S55) : S55 := minFromS (rd_T55 es 0) (es.drop 1)
theorem minFrom_memS : ∀ (r : List S55) (m : S55), minFromS m r = m ∨ minFromS m r ∈ r
  | [], m => .inl rfl
  | x :: r, m => by
    rcases minFrom_memS r (if ltrS x m then x else m) with h | h
    · show minFromS (if ltrS x m then x else m) r = m ∨ minFromS (if ltrS x m then x else m) r ∈ x :: r
      rw [h]
      split
      · exact .inr (List.mem_cons_self ..)
      · exact .inl rfl
    · exact .inr (List.mem_cons_of_mem _ h)
theorem least_memS (es : List S55) (h : 0 < es.length) : leastS es ∈ es := by
  unfold leastS
  rcases minFrom_memS (es.drop 1) (rd_T55 es 0) with h1 | h1
  · rw [h1]; simp [rd_T55, h]
  · exact List.mem_of_mem_drop h1
theorem least_idxS (es : List S55) (h : 0 < es.length) : 0 ≤ idxS (fun x => decide (x.f0 = (leastS es).f0)) es := by
  have hm := least_memS es h
  unfold idxS
  cases e : es.findIdx? (fun x => decide (x.f0 = (leastS es).f0)) with
  | none =>
    rw [List.findIdx?_eq_none_iff] at e
    have := e _ hm
    simp at this
  | some i => show (0 : Int) ≤ (i : Int); omega
theorem open_fullS {w : World} {ok : Nat → Prop} {g : Nat} {es : List S55} (h : TblS w ok g es) (now : Int) (hno : openNoS es now = false) (hlen : es.length = 8) :
    Calls Try.prog 11 #[.pointer (some ⟨g, 0, none⟩), .int .i64 now] w fun e w' => e = .returned (.bool true) ∧ TblS w' (fun k => ok k ∨ w.heap.size ≤ k) g (es.filter (fun x => !decide (x.f0 = (leastS es).f0)) ++ [⟨now, 0, now, ByteArray.empty⟩]) ∧ Kept w w' ok ∧ Below 0 w w' := by
  have hmf : ∀ (fn : Fn) (first cap : Array Value) (w : World), (Instr.makeFunc fn first cap).run Try.prog w = .ok (.func fn first cap) w := fun _ _ _ _ => rfl
  have hb := below_alloc (Below.refl w.heap.size w) (Obj.cells #[.int .i64 now] 3)
  have hbl := h.bound
  have h2 := hbl.below hb
  have hcell : (w.alloc (Obj.cells #[.int .i64 now] 3)).cell? ⟨w.heap.size, 0, none⟩ = some (.int .i64 now) := by simp
  have hnew := heap_alloc_new w (Obj.cells #[.int .i64 now] 3)
  have hlt : w.heap.size < (w.alloc (Obj.cells #[.int .i64 now] 3)).heap.size := by show _ < (w.heap.push _).size; rw [Array.size_push]; omega
  obtain ⟨A, c, c0, hc, hr⟩ := h2.cells
  unfold openNoS at hno
  rw [Bool.or_eq_false_iff] at hno
  obtain ⟨d0, hno⟩ := hno
  have hcon := con_callsS 33 w.heap.size _ _ A c es (open1S now w.heap.size _ hlt hcell) (enters_of Try.func33 (by kernel_rfl) rfl) hr
  rw [hno] at hcon
  have HC := Aside0.mk hcon
  have HT := Aside0.mk h2
  have HB := Aside0.mk hb
  have HN := Aside0.mk (And.intro hnew hlt)
  have HL := Aside0.mk hlen
  have HIX := Aside0.mk (least_idxS es (by omega))
  generalize hle : (leastS es) = M at *
  have HLE := Aside0.mk hle
  have d2 : ((es.length : Int) == 8) = true := by rw [hlen]; rfl
  clear hr h h2 hb hlt hno hc hcon hcell hbl hnew hlen hle
  go_enter Try.func11, Try.ntmps11
  go_wp2_with fail
  refine HC.out.mono ?_
  rintro _ w1 ⟨rfl, hb⟩
  have hT1 := HT.out.below hb
  have HT1 := Aside0.mk hT1
  have HB1 := Aside0.mk (HB.out.trans (hb.mono HB.out.size))
  have HX := Aside0.mk ((hb.block w.heap.size HN.out.2).trans HN.out.1)
  obtain ⟨hg, v0, hh, hR⟩ := hT1
  obtain ⟨gb, cap, rfl, -, hgbl, -⟩ := Kd.R_form hR (by have := HL.out; omega)
  have HGB := Aside0.mk (show (ok gb ∧ gb < w.heap.size) ∧ gb ≠ g from hR.1 gb rfl)
  have cg : w1.cell? ⟨g, 0, none⟩ = some (.slice (some ⟨gb, 0, none⟩) es.length cap) := by simp [World.cell?, hh]
  have hmin := min_callsS w1 (some ⟨gb, 0, none⟩) cap es (Kd.R_reads' hR).2.2 (by have := HL.out; omega)
  rw [show minFromS (rd_T55 es 0) (es.drop 1) = M from HLE.out] at hmin
  unfold cs55 at hmin
  have HMIN := Aside0.mk hmin
  have HH1 := Aside0.mk hh
  have HR1 := Aside0.mk hR
  have HG := Aside0.mk hg
  clear hb hh hR hmin hgbl hg HT1 HC HT
  go_wp2_with fail
  refine HMIN.out.mono ?_
  rintro _ w2 ⟨rfl, hb2⟩
  have hb3 := below_alloc (Below.refl w2.heap.size w2) (Obj.cells (cs55 M).toArray 55)
  have hb23 := hb2.trans (hb3.mono hb2.size)
  have HR3 := Aside0.mk (Kd.R_below HR1.out hb23)
  have HB3 := Aside0.mk (HB1.out.trans (hb23.mono HB1.out.size))
  have HH3 := Aside0.mk ((hb23.block g (Array.getElem?_eq_some_iff.1 HH1.out).1).trans HH1.out)
  have HX3 := Aside0.mk ((hb23.block w.heap.size (Array.getElem?_eq_some_iff.1 HX.out).1).trans HX.out)
  have hold := heap_alloc_new w2 (Obj.cells (cs55 M).toArray 55)
  have hlt3 : w2.heap.size < (w2.alloc (Obj.cells (cs55 M).toArray 55)).heap.size := by show _ < (w2.heap.push _).size; rw [Array.size_push]; omega
  have cg3 : (w2.alloc (Obj.cells #[.int .i64 M.f0, .int .i64 M.f1, .int .i64 M.f2, .string M.f3] 55)).cell? ⟨g, 0, none⟩ = some (.slice (some ⟨gb, 0, none⟩) es.length cap) := by
    have := HH3.out
    simp only [cs55] at this
    simp [World.cell?, this]
  have hdel := del_callsS 37 w2.heap.size (fun x => decide (x.f0 = M.f0)) (w2.alloc (Obj.cells (cs55 M).toArray 55)) _ gb cap es (open3S M w2.heap.size _ hold) (enters_of Try.func37 (by kernel_rfl) rfl) hlt3 (by have := HGB.out; have := HB1.out.size; have := hb2.size; omega) HR3.out HIX.out
  have HDEL := Aside0.mk hdel
  clear hdel hb2 hb3 hb23 hold hlt3 HR1 HH1 HX HMIN cg
  go_wp2_with fail
  refine HDEL.out.mono ?_
  clear HDEL
  rintro _ w4 ⟨rfl, hR4, hK4, hB4⟩
  generalize hes : (es.filter (fun x => !decide (x.f0 = M.f0))) = es' at *
  have hes' : es'.length ≤ 8 := by rw [← hes, ← HL.out]; exact List.length_filter_le _ _
  have HES := Aside0.mk hes'
  have HESQ := Aside0.mk hes
  have hh4 := (hK4.2 g (Array.getElem?_eq_some_iff.1 HH3.out).1 (fun he => HGB.out.2 he.symm)).trans HH3.out
  have hx4 := (hK4.2 w.heap.size (Array.getElem?_eq_some_iff.1 HX3.out).1 (fun he => by have := HGB.out; omega)).trans HX3.out
  have hcell : w4.cell? ⟨g, 0, none⟩ = some (.slice (some ⟨gb, 0, none⟩) es.length cap) := by simp [World.cell?, hh4]
  have hfz : w4.frozen? ⟨g, 0, none⟩ = false := by simp [World.frozen?, hh4]
  have HR4 := Aside0.mk hR4
  have HH4 := Aside0.mk hh4
  have HX4 := Aside0.mk hx4
  have HK4 := Aside0.mk (show Kept w w4 ok from ⟨Nat.le_trans HB3.out.size hK4.1, fun k hk hn => (hK4.2 k (Nat.lt_of_lt_of_le hk HB3.out.size) (fun he => hn (he ▸ HGB.out.1.1))).trans (HB3.out.block k hk)⟩)
  have HB4 := Aside0.mk ((HB3.out.mono (Nat.zero_le _)).trans hB4)
  clear hR4 hh4 hx4 hK4 hB4 hes hes' HR3 HH3 HX3 HB3 cg3
  go_wp2_with fail
  have HH5 := Aside0.mk (set_field0 HH4.out (.slice (some ⟨gb, 0, none⟩) es'.length cap))
  have HX5 := Aside0.mk (show (w4.setCell ⟨g, 0, none⟩ (.slice (some ⟨gb, 0, none⟩) es'.length cap)).heap[w.heap.size]? = _ from (Below.heap_setCell w4 ⟨g, 0, none⟩ _ w.heap.size (by have := HG.out.2; show w.heap.size ≠ g; omega)).trans HX4.out)
  have HR5 := Aside0.mk (Kd.R_far (p := ⟨g, 0, none⟩) HR4.out (fun k hk => hk.2) (.slice (some ⟨gb, 0, none⟩) es'.length cap))
  have HK5 := Aside0.mk (Kept.setCell HK4.out (p := ⟨g, 0, none⟩) (.inl HG.out.1) (.slice (some ⟨gb, 0, none⟩) es'.length cap))
  have HB5 := Aside0.mk (Below.setCell HB4.out (p := ⟨g, 0, none⟩) (Nat.zero_le _) (.slice (some ⟨gb, 0, none⟩) es'.length cap))
  generalize w4.setCell ⟨g, 0, none⟩ (.slice (some ⟨gb, 0, none⟩) es'.length cap) = w5 at *
  clear hcell hfz HH4 HX4 HR4 HK4 HB4
  have hI : IOS w5 (fun k => ok k ∧ k < w.heap.size) g w.heap.size es' (.slice (some ⟨gb, 0, none⟩) es'.length cap) now w5 := ⟨⟨by have := HES.out; omega, (Array.getElem?_eq_some_iff.1 HH5.out).1⟩, HG.out, HH5.out, HX5.out, Kd.R_mono (Kd.R_bound HR5.out) (fun k hk => ⟨⟨hk.1.1, hk.2.2.1⟩, hk.1.2⟩), Kept.refl _ _, Below.refl _ _⟩
  have HID := Aside0.mk hI
  clear hI
  refine regionOS (by kernel_rfl) w5 _ g w.heap.size es' _ now _ w5 HID.out rfl rfl rfl ?_
  intro a2 w6 hA ⟨hT, hK, hB⟩
  have HT3 := Aside0.mk (hT.mono (ok' := fun k => ok k ∨ w.heap.size ≤ k) (fun k hk => by
    rcases hk with hk | hk
    · exact .inl hk.1
    · exact .inr (Nat.le_trans HK5.out.1 hk)))
  have HK := Aside0.mk (show Kept w w6 ok from ⟨Nat.le_trans HK5.out.1 hK.1, fun k hk hn => (hK.2 k (Nat.lt_of_lt_of_le hk HK5.out.1) (fun h => hn h.1)).trans (HK5.out.2 k hk hn)⟩)
  have HB6 := Aside0.mk (HB5.out.trans hB)
  clear hT hK hB HID
  rw [hA.frame hinOS]
  clear hA
  simp only [List.range_succ, List.range_zero, List.nil_append, List.cons_append, foldO, dstOS, List.getD_cons_zero, List.getD_cons_succ, Act.put]
  generalize slotO dstOS a2 0 = y0
  generalize slotO dstOS a2 1 = y1
  generalize slotO dstOS a2 2 = y2
  generalize slotO dstOS a2 3 = y3
  generalize slotO dstOS a2 4 = y4
  generalize slotO dstOS a2 5 = y5
  generalize slotO dstOS a2 6 = y6
  generalize slotO dstOS a2 7 = y7
  generalize slotO dstOS a2 8 = y8
  generalize slotO dstOS a2 9 = y9
  generalize slotO dstOS a2 10 = y10
  generalize slotO dstOS a2 11 = y11
  clear a2
  go_wp2_with fail
  go_ret
  exact ⟨rfl, by rw [HESQ.out]; exact HT3.out, HK.out, HB6.out⟩

end Go.Proofs.Ytahkokbfghifhaa.PS
