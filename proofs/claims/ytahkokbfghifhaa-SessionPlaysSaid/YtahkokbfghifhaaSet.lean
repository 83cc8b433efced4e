/- Set: rows that are in order are taken over. -/
import Derived.Test.YtahkokbfghifhaaRef
import Derived.Test.YtahkokbfghifhaaProg
import Derived.Below
import Derived.Deep.Draws
import Derived.Deep.AppendLies
import Derived.Maps.AppendAt
import Derived.OwnWalk
import Derived.Laws.BytesArg
import Derived.Laws.MakeOwn
import Derived.Laws.OwnMore
import Derived.Deep.OwnRows
import Derived.Tactics
import Derived.Lib.ConvBytes
import Derived.Laws.Slices
import Derived.WalkKit
import Derived.KernelRfl
import Derived.RowKit3
import Derived.Deep.LoopGhost
import Derived.Deep.QuietTactic
import Derived.BigQuiet
import Derived.WideLaws
import Derived.Deep.DeepCutAuto
import Derived.Deep.CutBlock
import Derived.Deep.RegionHeld3
import Derived.Laws.Rows
import Derived.Lib.AppendStr
import Derived.ArgAppend
import Derived.Laws.IdiomCopy
import Derived.OrdersHeld
import Derived.Laws.BitsLemmas
import Derived.RowKit
import Derived.Test.YtahkokbfghifhaaWWords
import Derived.Test.YtahkokbfghifhaaWLast
import Derived.Test.YtahkokbfghifhaaWTab
import Derived.Test.YtahkokbfghifhaaWFour
import Derived.Test.YtahkokbfghifhaaWQPut
import Derived.Test.YtahkokbfghifhaaWApart
import Derived.Test.YtahkokbfghifhaaWArr
import Derived.Test.YtahkokbfghifhaaWZeros
import Derived.Test.YtahkokbfghifhaaWFoot
import Derived.Test.YtahkokbfghifhaaWKept
import Derived.Test.YtahkokbfghifhaaWShare
import Derived.Test.YtahkokbfghifhaaWN
import Derived.Test.YtahkokbfghifhaaWFootNe
import Derived.Test.YtahkokbfghifhaaWAt
import Derived.Test.YtahkokbfghifhaaWEqStruct
import Derived.Test.YtahkokbfghifhaaWRepsOne
import Derived.Test.YtahkokbfghifhaaWInv
import Derived.Test.YtahkokbfghifhaaWInvWords
import Derived.Test.YtahkokbfghifhaaWGuard
import Derived.Test.YtahkokbfghifhaaWNEv
import Derived.Test.YtahkokbfghifhaaWMore
namespace Go.Proofs.Ytahkokbfghifhaa.PS
open Go.RowKit Go.Proofs.YtahkokbfghifhaaW.PrintWords Go.Proofs.YtahkokbfghifhaaW.PrintLast Go.Proofs.YtahkokbfghifhaaW.PrintMore
set_option linter.unusedVariables false
set_option linter.unusedSimpArgs false
set_option maxHeartbeats 4000000
set_option maxRecDepth 100000

open Go.Proofs.Ytahkokbfghifhaa.Reg
/-- Rows that may be set. -/
def risF : Int → List S55 → Bool
  | _, [] => true
  | last, r :: l => (decide (last < r.f0) && decide (0 ≤ r.f1) && decide (r.f0 ≤ r.f2)) && risF r.f0 l
def setOK (es : List S55) : Bool := decide (es.length ≤ 8) && risF 0 es
theorem drop_rd (es : List S55) (i : Nat) (h : i < es.length) : es.drop i = rd_T55 es (i : Int) :: es.drop (i + 1) := by
  rw [List.drop_eq_getElem_cons h]; simp [rd_T55, h]
theorem set_calls {w : World} {ok : Nat → Prop} {g : Nat} {old : List S55} (h : TblS w ok g old) (A : Option Addr) (c : Nat) (es : List S55) (hC : Kd.C k55 w A es.length es) (hA : A = none → es.length = 0 ∧ c = 0) :
    Calls Try.prog 19 #[.pointer (some ⟨g, 0, none⟩), .slice A es.length c] w fun e w' => e = .returned (.bool (setOK es)) ∧ TblS w' (fun k => ok k ∨ w.heap.size ≤ k) g (if setOK es = true then es else old) ∧ Kept w w' ok ∧ Below 0 w w' := by
  have HT := Aside0.mk h
  have HC := Aside0.mk hC
  have HN := Aside0.mk (Kd.C_max hC)
  have HAA := Aside0.mk hA
  clear hA
  by_cases h8 : es.length ≤ 8
  · have hok : setOK es = risF 0 es := by unfold setOK; rw [decide_eq_true h8]; rfl
    rw [hok]
    generalize hrr : risF 0 es = r
    have HR := Aside0.mk hrr
    generalize hres : (if r = true then es else old) = res
    have HRES := Aside0.mk hres
    clear hres
    have H8 := Aside0.mk h8
    have HCL := Aside0.mk (fun W (hW : Below w.heap.size w W) => clone_callsS W A c es (Kd.C_below hC hW) (by omega) HAA.out)
    have d8 : decide ((es.length : Int) > 8) = false := decide_eq_false (by omega)
    clear h hC hok hrr h8
    generalize hL : es.length = n at *
    have HL := Aside0.mk hL
    clear hL
    go_enter Try.func19, Try.ntmps19
    go_wp2_with fail
    have V0 := Aside0.mk (Below.refl w.heap.size w)
    go_loopw [5, 13] (fun v5 v13 wr => ∃ (i : Nat) (last : Int), v5 = .int .i64 last ∧ v13 = .int .i64 (i : Int) ∧ Aside0 (i ≤ n) ∧ Aside0 (risF last (es.drop i) = r) ∧ Aside0 (Below w.heap.size w wr)) (fun _ v13 _ => n - (intOf v13).toNat)
    case atStart => exact ⟨0, 0, rfl, rfl, Aside0.mk (Nat.zero_le _), HR, V0⟩
    case round =>
      obtain ⟨i, last, rfl, rfl, HI, HJ, HB⟩ := hrel
      by_cases hin : i < n
      · have d1 : decide ((i : Int) < (n : Int)) = true := decide_eq_true (by omega)
        have hC2 := Kd.C_below HC.out HB.out
        obtain ⟨ad, rfl, c0, c1, c2, c3⟩ := at_T55 hC2 (i : Int) (by omega) (by omega)
        rw [Int.toNat_natCast] at c0 c1 c2 c3
        have hj := HJ.out
        rw [drop_rd es i (by rw [HL.out]; exact hin)] at hj
        generalize rd_T55 es (i : Int) = y at c0 c1 c2 c3 hj
        simp only [risF] at hj
        have hin2 : (i : Int) < (n : Int) := by omega
        have hi0 : (0 : Int) ≤ (i : Int) := by omega
        have HBA := Aside0.mk (below_over HB.out (below_alloc (Below.refl wr.heap.size wr) (Obj.cells (cs55 y).toArray 55)))
        have HIN := Aside0.mk hin
        have hwi : wrap64 ((i : Int) + 1) = ((i + 1 : Nat) : Int) := by have := HN.out; unfold wrap64; omega
        have FIN := Aside0.mk (show r = false → TblS (wr.alloc (Obj.cells (cs55 y).toArray 55)) (fun k => ok k ∨ w.heap.size ≤ k) g res ∧ Kept w (wr.alloc (Obj.cells (cs55 y).toArray 55)) ok ∧ Below 0 w (wr.alloc (Obj.cells (cs55 y).toArray 55)) from fun hr => by
          have hq : res = old := by rw [← HRES.out, hr]; rfl
          rw [hq]
          exact ⟨(HT.out.below HBA.out).mono (fun k hk => .inl hk), Kept.below (Kept.refl _ _) HBA.out, HBA.out.mono (Nat.zero_le _)⟩)
        clear hC2
        by_cases h1 : last < y.f0
        · have e1 : decide (y.f0 ≤ last) = false := decide_eq_false (by omega)
          by_cases h2 : 0 ≤ y.f1
          · have e2 : decide (y.f1 < 0) = false := decide_eq_false (by omega)
            by_cases h3 : y.f0 ≤ y.f2
            · have e3 : decide (y.f2 < y.f0) = false := decide_eq_false (by omega)
              rw [decide_eq_true h1, decide_eq_true h2, decide_eq_true h3] at hj
              have HJ2 := Aside0.mk (show risF y.f0 (es.drop (i + 1)) = r from by simpa using hj)
              clear h1 h2 h3 hj hin
              go_wp2_with fail
              go_roundw
              case rel => exact ⟨i + 1, y.f0, rfl, by first | rw [hwi] | rfl, Aside0.mk HIN.out, HJ2, HBA⟩
              case measure => have := HIN.out; first | (rw [hwi]; simp [intOf]; omega) | (simp [intOf]; omega)
            · have e3 : decide (y.f2 < y.f0) = true := decide_eq_true (by omega)
              rw [decide_eq_false h3] at hj
              have HF := Aside0.mk (show r = false from by simpa using hj.symm)
              clear h1 h2 h3 hj hin
              go_wp2_with fail
              go_ret
              exact ⟨by rw [HF.out]; rfl, FIN.out HF.out⟩
          · have e2 : decide (y.f1 < 0) = true := decide_eq_true (by omega)
            rw [decide_eq_false h2] at hj
            have HF := Aside0.mk (show r = false from by simpa using hj.symm)
            clear h1 h2 hj hin
            go_wp2_with fail
            go_ret
            exact ⟨by rw [HF.out]; rfl, FIN.out HF.out⟩
        · have e1 : decide (y.f0 ≤ last) = true := decide_eq_true (by omega)
          rw [decide_eq_false h1] at hj
          have HF := Aside0.mk (show r = false from by simpa using hj.symm)
          clear h1 hj hin
          go_wp2_with fail
          go_ret
          exact ⟨by rw [HF.out]; rfl, FIN.out HF.out⟩
      · have d1 : decide ((i : Int) < (n : Int)) = false := decide_eq_false (by omega)
        have hin2 : ¬ (i : Int) < (n : Int) := by omega
        have hr : r = true := by
          have := HJ.out
          rw [List.drop_eq_nil_of_le (by rw [HL.out]; omega)] at this
          exact this.symm
        have hq : es = res := by rw [← HRES.out, hr]; rfl
        subst hr
        subst hq
        have HCC := Aside0.mk (HCL.out wr HB.out)
        clear HCL
        go_wp2_with fail
        refine HCC.out.mono ?_
        rintro _ w3 ⟨v, rfl, hR, hb⟩
        have hbb := HB.out.trans (hb.mono HB.out.size)
        obtain ⟨hg, v0, hh, hR0⟩ := HT.out.below hbb
        have hlt : g < wr.heap.size := (HT.out.below HB.out).lt
        obtain ⟨A3, c3, rfl⟩ := Kd.R_slice hR
        have hcell : w3.cell? ⟨g, 0, none⟩ = some v0 := by simp [World.cell?, hh]
        have hfz : w3.frozen? ⟨g, 0, none⟩ = false := by simp [World.frozen?, hh]
        have HH3 := Aside0.mk (set_field0 hh (.slice A3 es.length c3))
        have HR3 := Aside0.mk (Kd.R_far (p := ⟨g, 0, none⟩) (Kd.R_mono (Kd.R_bound hR) (ok' := fun k => wr.heap.size ≤ k) (fun k hk => hk.2.1)) (fun k hk => by show k ≠ g; omega) (.slice A3 es.length c3))
        have HK3 := Aside0.mk (Kept.setCell (p := ⟨g, 0, none⟩) (Kept.below (Kept.refl w ok) hbb) (.inl hg) (.slice A3 es.length c3))
        have HB3 := Aside0.mk (Below.setCell (p := ⟨g, 0, none⟩) (hbb.mono (Nat.zero_le _)) (Nat.zero_le _) (.slice A3 es.length c3))
        have HG := Aside0.mk (And.intro hg hlt)
        have HWB := Aside0.mk HB.out.size
        clear hR hb hbb hg hh hR0 hlt
        go_wp2_with fail
        go_ret
        refine ⟨rfl, ⟨.inl HG.out.1, _, HH3.out, ?_⟩, HK3.out, HB3.out⟩
        exact Kd.R_mono (Kd.R_lower HR3.out (Nat.zero_le _)) (fun k hk => ⟨.inr (Nat.le_trans HWB.out hk), by have := HG.out.2; omega⟩)
  · have hok : setOK es = false := by unfold setOK; rw [decide_eq_false h8]; rfl
    have d8 : decide ((es.length : Int) > 8) = true := decide_eq_true (by omega)
    rw [hok]
    simp only [Bool.false_eq_true, if_false]
    clear hC h h8 hok
    go_enter Try.func19, Try.ntmps19
    go_wp2_with fail
    go_ret
    exact ⟨rfl, HT.out.mono (fun k hk => .inl hk), Kept.refl _ _, Below.refl _ _⟩

end Go.Proofs.Ytahkokbfghifhaa.PS
