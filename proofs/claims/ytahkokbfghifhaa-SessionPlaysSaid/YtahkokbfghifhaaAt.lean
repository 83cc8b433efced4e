/- at, late: where a session's row lies; whether a moment is behind all. -/
import Derived.Test.YtahkokbfghifhaaIdx
import Derived.Test.YtahkokbfghifhaaProg
import Derived.Below
import Derived.Deep.Draws
import Derived.Deep.AppendLies
import Derived.Maps.AppendAt
import Derived.OwnWalk
import Derived.Laws.BytesArg
import Derived.Laws.MakeOwn
import Derived.Laws.OwnMore
import Derived.Deep.OwnRows
import Derived.Tactics
import Derived.Lib.ConvBytes
import Derived.Laws.Slices
import Derived.WalkKit
import Derived.KernelRfl
import Derived.RowKit3
import Derived.Deep.LoopGhost
import Derived.Deep.QuietTactic
import Derived.BigQuiet
import Derived.WideLaws
import Derived.Deep.DeepCutAuto
import Derived.Deep.CutBlock
import Derived.Deep.RegionHeld3
import Derived.Laws.Rows
import Derived.Lib.AppendStr
import Derived.ArgAppend
import Derived.Laws.IdiomCopy
import Derived.OrdersHeld
import Derived.Laws.BitsLemmas
import Derived.RowKit
import Derived.Test.YtahkokbfghifhaaWWords
import Derived.Test.YtahkokbfghifhaaWLast
import Derived.Test.YtahkokbfghifhaaWTab
import Derived.Test.YtahkokbfghifhaaWFour
import Derived.Test.YtahkokbfghifhaaWQPut
import Derived.Test.YtahkokbfghifhaaWApart
import Derived.Test.YtahkokbfghifhaaWArr
import Derived.Test.YtahkokbfghifhaaWZeros
import Derived.Test.YtahkokbfghifhaaWFoot
import Derived.Test.YtahkokbfghifhaaWKept
import Derived.Test.YtahkokbfghifhaaWShare
import Derived.Test.YtahkokbfghifhaaWN
import Derived.Test.YtahkokbfghifhaaWFootNe
import Derived.Test.YtahkokbfghifhaaWAt
import Derived.Test.YtahkokbfghifhaaWEqStruct
import Derived.Test.YtahkokbfghifhaaWRepsOne
import Derived.Test.YtahkokbfghifhaaWInv
import Derived.Test.YtahkokbfghifhaaWInvWords
import Derived.Test.YtahkokbfghifhaaWGuard
import Derived.Test.YtahkokbfghifhaaWNEv
import Derived.Test.YtahkokbfghifhaaWMore
namespace Go.Proofs.Ytahkokbfghifhaa.PS
open Go.RowKit Go.Proofs.YtahkokbfghifhaaW.PrintWords Go.Proofs.YtahkokbfghifhaaW.PrintLast Go.Proofs.YtahkokbfghifhaaW.PrintMore
set_option linter.unusedVariables false
set_option linter.unusedSimpArgs false
set_option maxHeartbeats 4000000
set_option maxRecDepth 100000

theorem any_idxI (p : S45 → Bool) (es : List S45) : decide (idxI p es ≥ 0) = es.any p := by
  unfold idxI
  cases h : es.findIdx? p with
  | none =>
    rw [List.findIdx?_eq_none_iff] at h
    have : es.any p = false := by simpa using h
    rw [this]; rfl
  | some i =>
    rw [List.findIdx?_eq_some_iff_getElem] at h
    obtain ⟨h1, h2, _⟩ := h
    have : es.any p = true := List.any_eq_true.2 ⟨_, List.getElem_mem h1, h2⟩
    rw [this]
    simp
theorem con_callsI (f B : Nat) (p : S45 → Bool) (w : World) (A : Option Addr) (c : Nat) (es : List S45) (hp : PredI f B p w) (ef : Enters Try.prog f) (hC : Kd.C k45 w A es.length es) :
    Calls Try.prog 22 #[.slice A es.length c, .func (.func f) #[] #[.pointer (some ⟨B, 0, none⟩)]] w fun e w' => e = .returned (.bool (es.any p)) ∧ Below w.heap.size w w' := by
  have HC := Aside0.mk (idx_callsI f B p w A c es hp ef hC)
  have HA := Aside0.mk (any_idxI p es)
  clear hp ef hC
  go_enter Try.func22, Try.ntmps22
  go_wp2_with fail
  refine HC.out.mono ?_
  rintro _ w' ⟨rfl, hb⟩
  have HB := Aside0.mk hb
  clear hb
  have ha := HA.out
  go_wp2_with fail
  go_ret
  exact ⟨by first | rfl | (rw [← ha]; rfl), HB.out⟩
theorem at_callsI {w : World} {ok : Nat → Prop} {g : Nat} {es : List S45} (h : TblI w ok g es) (id : Int) :
    Calls Try.prog 30 #[.pointer (some ⟨g, 0, none⟩), .int .i64 id] w fun e w' => e = .returned (.int .i64 (idxI (fun x => decide (x.f0 = id)) es)) ∧ Below w.heap.size w w' := by
  have hmf : ∀ (fn : Fn) (first cap : Array Value) (w : World), (Instr.makeFunc fn first cap).run Try.prog w = .ok (.func fn first cap) w := fun _ _ _ _ => rfl
  have hb := below_alloc (Below.refl w.heap.size w) (Obj.cells #[.int .i64 id] 3)
  have h2 := h.below hb
  have hcell : (w.alloc (Obj.cells #[.int .i64 id] 3)).cell? ⟨w.heap.size, 0, none⟩ = some (.int .i64 id) := by simp
  have hlt : w.heap.size < (w.alloc (Obj.cells #[.int .i64 id] 3)).heap.size := by show _ < (w.heap.push _).size; rw [Array.size_push]; omega
  obtain ⟨A, c, c0, hc, hr⟩ := h2.cells
  have HC := Aside0.mk (idx_callsI 44 w.heap.size _ _ A c es (at1I id w.heap.size _ hlt hcell) (enters_of Try.func44 (by kernel_rfl) rfl) hr)
  have HB := Aside0.mk hb
  clear hr h h2 hb hlt hcell
  go_enter Try.func30, Try.ntmps30
  go_wp2_with fail
  refine HC.out.mono ?_
  rintro _ w' ⟨rfl, hb⟩
  have HB2 := Aside0.mk (HB.out.trans (hb.mono HB.out.size))
  clear hb
  go_wp2_with fail
  go_ret
  exact ⟨rfl, HB2.out⟩
theorem late_callsI {w : World} {ok : Nat → Prop} {g : Nat} {es : List S45} (h : TblI w ok g es) (now : Int) :
    Calls Try.prog 31 #[.pointer (some ⟨g, 0, none⟩), .int .i64 now] w fun e w' => e = .returned (.bool (!es.any (fun x => decide (x.f2 > now)))) ∧ Below w.heap.size w w' := by
  have hmf : ∀ (fn : Fn) (first cap : Array Value) (w : World), (Instr.makeFunc fn first cap).run Try.prog w = .ok (.func fn first cap) w := fun _ _ _ _ => rfl
  have hb := below_alloc (Below.refl w.heap.size w) (Obj.cells #[.int .i64 now] 3)
  have h2 := h.below hb
  have hcell : (w.alloc (Obj.cells #[.int .i64 now] 3)).cell? ⟨w.heap.size, 0, none⟩ = some (.int .i64 now) := by simp
  have hlt : w.heap.size < (w.alloc (Obj.cells #[.int .i64 now] 3)).heap.size := by show _ < (w.heap.push _).size; rw [Array.size_push]; omega
  obtain ⟨A, c, c0, hc, hr⟩ := h2.cells
  have HC := Aside0.mk (con_callsI 45 w.heap.size _ _ A c es (late1I now w.heap.size _ hlt hcell) (enters_of Try.func45 (by kernel_rfl) rfl) hr)
  have HB := Aside0.mk hb
  clear hr h h2 hb hlt hcell
  generalize (es.any fun x => decide (x.f2 > now)) = r at *
  go_enter Try.func31, Try.ntmps31
  go_wp2_with fail
  refine HC.out.mono ?_
  rintro _ w' ⟨rfl, hb⟩
  have HB2 := Aside0.mk (HB.out.trans (hb.mono HB.out.size))
  clear hb
  go_wp2_with fail
  go_ret
  exact ⟨rfl, HB2.out⟩

theorem any_idxS (p : S55 → Bool) (es : List S55) : decide (idxS p es ≥ 0) = es.any p := by
  unfold idxS
  cases h : es.findIdx? p with
  | none =>
    rw [List.findIdx?_eq_none_iff] at h
    have : es.any p = false := by simpa using h
    rw [this]; rfl
  | some i =>
    rw [List.findIdx?_eq_some_iff_getElem] at h
    obtain ⟨h1, h2, _⟩ := h
    have : es.any p = true := List.any_eq_true.2 ⟨_, List.getElem_mem h1, h2⟩
    rw [this]
    simp
theorem con_callsS (f B : Nat) (p : S55 → Bool) (w : World) (A : Option Addr) (c : Nat) (es : List S55) (hp : PredS f B p w) (ef : Enters Try.prog f) (hC : Kd.C k55 w A es.length es) :
    Calls Try.prog 32 #[.slice A es.length c, .func (.func f) #[] #[.pointer (some ⟨B, 0, none⟩)]] w fun e w' => e = .returned (.bool (es.any p)) ∧ Below w.heap.size w w' := by
  have HC := Aside0.mk (idx_callsS f B p w A c es hp ef hC)
  have HA := Aside0.mk (any_idxS p es)
  clear hp ef hC
  go_enter Try.func32, Try.ntmps32
  go_wp2_with fail
  refine HC.out.mono ?_
  rintro _ w' ⟨rfl, hb⟩
  have HB := Aside0.mk hb
  clear hb
  have ha := HA.out
  go_wp2_with fail
  go_ret
  exact ⟨by first | rfl | (rw [← ha]; rfl), HB.out⟩
theorem at_callsS {w : World} {ok : Nat → Prop} {g : Nat} {es : List S55} (h : TblS w ok g es) (id : Int) :
    Calls Try.prog 39 #[.pointer (some ⟨g, 0, none⟩), .int .i64 id] w fun e w' => e = .returned (.int .i64 (idxS (fun x => decide (x.f0 = id)) es)) ∧ Below w.heap.size w w' := by
  have hmf : ∀ (fn : Fn) (first cap : Array Value) (w : World), (Instr.makeFunc fn first cap).run Try.prog w = .ok (.func fn first cap) w := fun _ _ _ _ => rfl
  have hb := below_alloc (Below.refl w.heap.size w) (Obj.cells #[.int .i64 id] 3)
  have h2 := h.below hb
  have hcell : (w.alloc (Obj.cells #[.int .i64 id] 3)).cell? ⟨w.heap.size, 0, none⟩ = some (.int .i64 id) := by simp
  have hlt : w.heap.size < (w.alloc (Obj.cells #[.int .i64 id] 3)).heap.size := by show _ < (w.heap.push _).size; rw [Array.size_push]; omega
  obtain ⟨A, c, c0, hc, hr⟩ := h2.cells
  have HC := Aside0.mk (idx_callsS 48 w.heap.size _ _ A c es (at1S id w.heap.size _ hlt hcell) (enters_of Try.func48 (by kernel_rfl) rfl) hr)
  have HB := Aside0.mk hb
  clear hr h h2 hb hlt hcell
  go_enter Try.func39, Try.ntmps39
  go_wp2_with fail
  refine HC.out.mono ?_
  rintro _ w' ⟨rfl, hb⟩
  have HB2 := Aside0.mk (HB.out.trans (hb.mono HB.out.size))
  clear hb
  go_wp2_with fail
  go_ret
  exact ⟨rfl, HB2.out⟩
theorem late_callsS {w : World} {ok : Nat → Prop} {g : Nat} {es : List S55} (h : TblS w ok g es) (now : Int) :
    Calls Try.prog 38 #[.pointer (some ⟨g, 0, none⟩), .int .i64 now] w fun e w' => e = .returned (.bool (!es.any (fun x => decide (x.f2 > now)))) ∧ Below w.heap.size w w' := by
  have hmf : ∀ (fn : Fn) (first cap : Array Value) (w : World), (Instr.makeFunc fn first cap).run Try.prog w = .ok (.func fn first cap) w := fun _ _ _ _ => rfl
  have hb := below_alloc (Below.refl w.heap.size w) (Obj.cells #[.int .i64 now] 3)
  have h2 := h.below hb
  have hcell : (w.alloc (Obj.cells #[.int .i64 now] 3)).cell? ⟨w.heap.size, 0, none⟩ = some (.int .i64 now) := by simp
  have hlt : w.heap.size < (w.alloc (Obj.cells #[.int .i64 now] 3)).heap.size := by show _ < (w.heap.push _).size; rw [Array.size_push]; omega
  obtain ⟨A, c, c0, hc, hr⟩ := h2.cells
  have HC := Aside0.mk (con_callsS 47 w.heap.size _ _ A c es (late1S now w.heap.size _ hlt hcell) (enters_of Try.func47 (by kernel_rfl) rfl) hr)
  have HB := Aside0.mk hb
  clear hr h h2 hb hlt hcell
  generalize (es.any fun x => decide (x.f2 > now)) = r at *
  go_enter Try.func38, Try.ntmps38
  go_wp2_with fail
  refine HC.out.mono ?_
  rintro _ w' ⟨rfl, hb⟩
  have HB2 := Aside0.mk (HB.out.trans (hb.mono HB.out.size))
  clear hb
  go_wp2_with fail
  go_ret
  exact ⟨rfl, HB2.out⟩

end Go.Proofs.Ytahkokbfghifhaa.PS
