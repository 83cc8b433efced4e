/- The document's table: Set. -/
import Derived.Test.YtahkokbfghifhaaSet
import Derived.Test.YtahkokbfghifhaaProg
import Derived.Below
import Derived.Deep.Draws
import Derived.Deep.AppendLies
import Derived.Maps.AppendAt
import Derived.OwnWalk
import Derived.Laws.BytesArg
import Derived.Laws.MakeOwn
import Derived.Laws.OwnMore
import Derived.Deep.OwnRows
import Derived.Tactics
import Derived.Lib.ConvBytes
import Derived.Laws.Slices
import Derived.WalkKit
import Derived.KernelRfl
import Derived.RowKit3
import Derived.Deep.LoopGhost
import Derived.Deep.QuietTactic
import Derived.BigQuiet
import Derived.WideLaws
import Derived.Deep.DeepCutAuto
import Derived.Deep.CutBlock
import Derived.Deep.RegionHeld3
import Derived.Laws.Rows
import Derived.Lib.AppendStr
import Derived.ArgAppend
import Derived.Laws.IdiomCopy
import Derived.OrdersHeld
import Derived.Laws.BitsLemmas
import Derived.RowKit
import Derived.Test.YtahkokbfghifhaaWWords
import Derived.Test.YtahkokbfghifhaaWLast
import Derived.Test.YtahkokbfghifhaaWTab
import Derived.Test.YtahkokbfghifhaaWFour
import Derived.Test.YtahkokbfghifhaaWQPut
import Derived.Test.YtahkokbfghifhaaWApart
import Derived.Test.YtahkokbfghifhaaWArr
import Derived.Test.YtahkokbfghifhaaWZeros
import Derived.Test.YtahkokbfghifhaaWFoot
import Derived.Test.YtahkokbfghifhaaWKept
import Derived.Test.YtahkokbfghifhaaWShare
import Derived.Test.YtahkokbfghifhaaWN
import Derived.Test.YtahkokbfghifhaaWFootNe
import Derived.Test.YtahkokbfghifhaaWAt
import Derived.Test.YtahkokbfghifhaaWEqStruct
import Derived.Test.YtahkokbfghifhaaWRepsOne
import Derived.Test.YtahkokbfghifhaaWInv
import Derived.Test.YtahkokbfghifhaaWInvWords
import Derived.Test.YtahkokbfghifhaaWGuard
import Derived.Test.YtahkokbfghifhaaWNEv
import Derived.Test.YtahkokbfghifhaaWMore
namespace Go.Proofs.Ytahkokbfghifhaa.PS
open Go.RowKit Go.Proofs.YtahkokbfghifhaaW.PrintWords Go.Proofs.YtahkokbfghifhaaW.PrintLast Go.Proofs.YtahkokbfghifhaaW.PrintMore
set_option linter.unusedVariables false
set_option linter.unusedSimpArgs false
set_option maxHeartbeats 4000000
set_option maxRecDepth 100000

open Go.Proofs.Ytahkokbfghifhaa.Reg
theorem rset_calls {w : World} {ok : Nat → Prop} {g : Nat} {old : List S55} (h : TblX w ok g old) (A : Option Addr) (c : Nat) (es : List S55) (hC : Kd.C k55 w A es.length es) (hA : A = none → es.length = 0 ∧ c = 0) :
    Calls Try.prog 20 #[.pointer (some ⟨g, 0, none⟩), .slice A es.length c] w fun e w' => e = .returned (.bool (setOK es)) ∧ TblX w' (fun k => ok k ∨ w.heap.size ≤ k) g (if setOK es = true then es else old) ∧ Kept w w' ok ∧ Below 0 w w' := by
  have HT := Aside0.mk h
  have HC := Aside0.mk hC
  have HN := Aside0.mk (Kd.C_max hC)
  have hok : setOK es = (decide (es.length ≤ 8) && risF 0 es) := rfl
  rw [hok]
  generalize hrr : risF 0 es = rr
  have HR := Aside0.mk hrr
  generalize hres : (if (decide (es.length ≤ 8) && rr) = true then es else old) = res
  have HRES := Aside0.mk hres
  clear h hC hA hok hrr hres
  generalize hL : es.length = n at *
  have HL := Aside0.mk hL
  clear hL
  generalize h8 : decide (n ≤ 8) = l8 at *
  have H8 := Aside0.mk h8
  clear h8
  go_enter Try.func20, Try.ntmps20
  go_wp2_with fail
  have V0 := Aside0.mk (Below.refl w.heap.size w)
  go_loopw [9] (fun v9 wr => ∃ (i : Nat) (last : Int), v9 = .int .i64 (i : Int) ∧ Aside0 (i ≤ n) ∧ Aside0 ((i = 0 ∧ last = 0) ∨ ∃ k, i = k + 1 ∧ last = (rd_T55 es (k : Int)).f0 ∧ 1 ≤ last) ∧ Aside0 (risF last (es.drop i) = rr) ∧ Aside0 (Below w.heap.size w wr)) (fun v9 _ => n - (intOf v9).toNat)
  case atStart => exact ⟨0, 0, rfl, Aside0.mk (Nat.zero_le _), Aside0.mk (.inl ⟨rfl, rfl⟩), HR, V0⟩
  case round =>
    obtain ⟨i, last, rfl, HI, HQ, HJ, HB⟩ := hrel
    by_cases hin : i < n
    · have d1 : decide ((i : Int) < (n : Int)) = true := decide_eq_true (by omega)
      have hC2 := Kd.C_below HC.out HB.out
      obtain ⟨ad, rfl, c0, c1, c2, c3⟩ := at_T55 hC2 (i : Int) (by omega) (by omega)
      rw [Int.toNat_natCast] at c0 c1 c2 c3
      have hj := HJ.out
      rw [drop_rd es i (by rw [HL.out]; exact hin)] at hj
      generalize hy : rd_T55 es (i : Int) = y at c0 c1 c2 c3 hj
      have HY := Aside0.mk (show y.f0 = (rd_T55 es (i : Int)).f0 by rw [hy])
      simp only [risF] at hj
      have hin2 : (i : Int) < (n : Int) := by omega
      have hi0 : (0 : Int) ≤ (i : Int) := by omega
      have hbx := below_alloc (Below.refl wr.heap.size wr) (Obj.cells #[.int .i64 y.f0, .int .i64 y.f1, .int .i64 y.f2, .string y.f3] 55)
      have HBA := Aside0.mk (below_over HB.out hbx)
      have HIN := Aside0.mk hin
      have hwi : wrap64 ((i : Int) + 1) = ((i + 1 : Nat) : Int) := by have := HN.out; unfold wrap64; omega
      have FIN := Aside0.mk (show ∀ m, rr = false → TblX ((wr.alloc (Obj.cells #[.int .i64 y.f0, .int .i64 y.f1, .int .i64 y.f2, .string y.f3] 55)).drewN m) (fun k => ok k ∨ w.heap.size ≤ k) g res ∧ Kept w ((wr.alloc (Obj.cells #[.int .i64 y.f0, .int .i64 y.f1, .int .i64 y.f2, .string y.f3] 55)).drewN m) ok ∧ Below 0 w ((wr.alloc (Obj.cells #[.int .i64 y.f0, .int .i64 y.f1, .int .i64 y.f2, .string y.f3] 55)).drewN m) from fun m hr => by
        have hq : res = old := by rw [← HRES.out, hr, Bool.and_false]; rfl
        have hb := pw_below_drewN HBA.out m
        rw [hq]
        exact ⟨(HT.out.below hb).mono (fun k hk => .inl hk), Kept.below (Kept.refl _ _) hb, hb.mono (Nat.zero_le _)⟩)
      clear hy
      by_cases h0 : y.f0 < 1
      · have e0 : decide (y.f0 < 1) = true := decide_eq_true h0
        have hl : ¬ last < y.f0 := by have := HQ.out; omega
        rw [decide_eq_false hl] at hj
        clear hC2 hbx h0 hl
        have HF := Aside0.mk (show rr = false from by simpa using hj.symm)
        clear hj hin 
        go_wp2_with fail
        go_quiet (fail)
        go_wp2_with fail
        go_ret
        exact ⟨by rw [HF.out]; simp, FIN.out _ HF.out⟩
      · have e0 : decide (y.f0 < 1) = false := decide_eq_false h0
        have HY1 := Aside0.mk (show 1 ≤ y.f0 by omega)
        clear h0
        rcases HQ.out with ⟨hi, hl⟩ | ⟨k, hk, hl, hl1⟩
        · have ei : decide ((i : Int) > 0) = false := decide_eq_false (by omega)
          have ei2 : decide (0 < i) = false := decide_eq_false (by omega)
          have h1 : last < y.f0 := by have := HY1.out; omega
          have HI0 := Aside0.mk hi
          clear hC2 hbx hi hl
          by_cases h2 : 0 ≤ y.f1
          · have e2 : decide (y.f1 < 0) = false := decide_eq_false (by omega)
            by_cases h3 : y.f0 ≤ y.f2
            · have e3 : decide (y.f2 < y.f0) = false := decide_eq_false (by omega)
              rw [decide_eq_true h1, decide_eq_true h2, decide_eq_true h3] at hj
              have HJ2 := Aside0.mk (show risF y.f0 (es.drop (i + 1)) = rr from by simpa using hj)
              clear h1 h2 h3 hj hin
              go_wp2_with fail
              go_quiet (fail)
              go_wp2_with fail
              go_roundw
              case rel => exact ⟨i + 1, y.f0, by first | rw [hwi] | rfl, Aside0.mk HIN.out, Aside0.mk (.inr ⟨i, rfl, HY.out, HY1.out⟩), HJ2, Aside0.mk (pw_below_drewN HBA.out _)⟩
              case measure => have := HIN.out; first | (rw [hwi]; simp [intOf]; omega) | (simp [intOf]; omega)
            · have e3 : decide (y.f2 < y.f0) = true := decide_eq_true (by omega)
              rw [decide_eq_false h3] at hj
              have HF := Aside0.mk (show rr = false from by simpa using hj.symm)
              clear hj hin h1 h2 h3
              go_wp2_with fail
              go_quiet (fail)
              go_wp2_with fail
              go_ret
              exact ⟨by rw [HF.out]; simp, FIN.out _ HF.out⟩
          · have e2 : decide (y.f1 < 0) = true := decide_eq_true (by omega)
            rw [decide_eq_false h2] at hj
            have HF := Aside0.mk (show rr = false from by simpa using hj.symm)
            clear hj hin h1 h2
            go_wp2_with fail
            go_quiet (fail)
            go_wp2_with fail
            go_ret
            exact ⟨by rw [HF.out]; simp, FIN.out _ HF.out⟩
        · have ei : decide ((i : Int) > 0) = true := decide_eq_true (by omega)
          have ei2 : decide (0 < i) = true := decide_eq_true (by omega)
          have hwk : wrap64 ((i : Int) - 1) = (k : Int) := by have := HN.out; unfold wrap64; omega
          have hk0 : (0 : Int) ≤ (k : Int) := by omega
          have hkn : (k : Int) < (n : Int) := by omega
          obtain ⟨ad3, had, p0, p1, p2, p3⟩ := at_T55 (Kd.C_below hC2 hbx) (k : Int) hk0 hkn
          injection had with had
          subst had
          rw [Int.toNat_natCast] at p0
          rw [← hl] at p0
          have HKK := Aside0.mk hk
          by_cases h1 : last < y.f0
          · have e1 : decide (last ≥ y.f0) = false := decide_eq_false (by omega)
            clear hC2 hbx hl hl1 hk p1 p2 p3
            by_cases h2 : 0 ≤ y.f1
            · have e2 : decide (y.f1 < 0) = false := decide_eq_false (by omega)
              by_cases h3 : y.f0 ≤ y.f2
              · have e3 : decide (y.f2 < y.f0) = false := decide_eq_false (by omega)
                rw [decide_eq_true h1, decide_eq_true h2, decide_eq_true h3] at hj
                have HJ2 := Aside0.mk (show risF y.f0 (es.drop (i + 1)) = rr from by simpa using hj)
                clear h1 h2 h3 hj hin
                go_wp2_with fail
                go_quiet (fail)
                go_wp2_with fail
                go_roundw
                case rel => exact ⟨i + 1, y.f0, by first | rw [hwi] | rfl, Aside0.mk HIN.out, Aside0.mk (.inr ⟨i, rfl, HY.out, HY1.out⟩), HJ2, Aside0.mk (pw_below_drewN HBA.out _)⟩
                case measure => have := HIN.out; first | (rw [hwi]; simp [intOf]; omega) | (simp [intOf]; omega)
              · have e3 : decide (y.f2 < y.f0) = true := decide_eq_true (by omega)
                rw [decide_eq_false h3] at hj
                have HF := Aside0.mk (show rr = false from by simpa using hj.symm)
                clear hj hin h1 h2 h3
                go_wp2_with fail
                go_quiet (fail)
                go_wp2_with fail
                go_ret
                exact ⟨by rw [HF.out]; simp, FIN.out _ HF.out⟩
            · have e2 : decide (y.f1 < 0) = true := decide_eq_true (by omega)
              rw [decide_eq_false h2] at hj
              have HF := Aside0.mk (show rr = false from by simpa using hj.symm)
              clear hj hin h1 h2
              go_wp2_with fail
              go_quiet (fail)
              go_wp2_with fail
              go_ret
              exact ⟨by rw [HF.out]; simp, FIN.out _ HF.out⟩
          · have e1 : decide (last ≥ y.f0) = true := decide_eq_true (by omega)
            rw [decide_eq_false h1] at hj
            clear hC2 hbx hl hl1 hk p1 p2 p3
            have HF := Aside0.mk (show rr = false from by simpa using hj.symm)
            clear hj hin h1
            go_wp2_with fail
            go_quiet (fail)
            go_wp2_with fail
            go_ret
            exact ⟨by rw [HF.out]; simp, FIN.out _ HF.out⟩
    · have d1 : decide ((i : Int) < (n : Int)) = false := decide_eq_false (by omega)
      have hin2 : ¬ (i : Int) < (n : Int) := by omega
      have hr : rr = true := by
        have := HJ.out
        rw [List.drop_eq_nil_of_le (by rw [HL.out]; omega)] at this
        exact this.symm
      subst hr
      cases l8 with
      | false =>
        have d8 : decide ((n : Int) > 8) = true := decide_eq_true (by have := H8.out; simp at this; omega)
        have hq : res = old := by rw [← HRES.out]; rfl
        subst hq
        have FIN := Aside0.mk (And.intro ((HT.out.below HB.out).mono (ok' := fun k => ok k ∨ w.heap.size ≤ k) (fun k hk => .inl hk)) (And.intro (Kept.below (Kept.refl w ok) HB.out) (HB.out.mono (Nat.zero_le _))))
        go_wp2_with fail
        go_ret
        exact ⟨rfl, FIN.out⟩
      | true =>
        have h8 : n ≤ 8 := by have := H8.out; simpa using this
        have d8 : decide ((n : Int) > 8) = false := decide_eq_false (by omega)
        have hq : es = res := by rw [← HRES.out]; rfl
        subst hq
        have hb := below_alloc (Below.refl wr.heap.size wr) (Obj.cells #[] 55)
        have hbb := HB.out.trans (hb.mono HB.out.size)
        have HCC := Aside0.mk (Kd.C_below HC.out hbb)
        have HE := Aside0.mk (empty_rowS wr wr.heap.size (Nat.le_refl _))
        have HB2 := Aside0.mk hb
        have H88 := Aside0.mk h8
        have HBB := Aside0.mk hbb
        clear hb hbb h8
        go_wp2_with (first
          | (at_builtin
             refine Kd.R_append_rows k55 (w0 := wr) wr.heap.size rfl (.tmp 49) (.tmp 50) 34 55 _ 40 rfl Try.underlying34 info55 rfl (by decide) (by decide) _ [] es A n c (fun _ => True) (fun _ => False) rfl rfl HE.out HCC.out (fun x cs h => by obtain rfl := k55_open h; exact k55_mkM _ _ _ _) (fun k hk => hk.elim) (fun _ _ => trivial) HB2.out HB2.out.size (by have := H88.out; simp; omega) ?_
             intro v1 w3 hR hb3 hg1 hat1
             have hb9 := HB.out.trans (hb3.mono HB.out.size)
             obtain ⟨hg, v0, hh, hR0⟩ := HT.out.below hb9
             have hlt : g < wr.heap.size := (HT.out.below HB.out).lt
             obtain ⟨A3, c3, rfl⟩ := Kd.R_slice hR
             have hcell : w3.cell? ⟨g, 0, none⟩ = some v0 := by simp [World.cell?, hh]
             have hfz : w3.frozen? ⟨g, 0, none⟩ = false := by simp [World.frozen?, hh]
             have HH3 := Aside0.mk (set_field0 hh (.slice A3 ([] ++ es).length c3))
             have HR3 := Aside0.mk (Kd.R_far (p := ⟨g, 0, none⟩) (Kd.R_mono (Kd.R_bound hR) (ok' := fun k => wr.heap.size ≤ k) (fun k hk => hk.2.1)) (fun k hk => by show k ≠ g; omega) (.slice A3 ([] ++ es).length c3))
             have HK3 := Aside0.mk (Kept.setCell (p := ⟨g, 0, none⟩) (Kept.below (Kept.refl w ok) hb9) (.inl hg) (.slice A3 ([] ++ es).length c3))
             have HB3 := Aside0.mk (Below.setCell (p := ⟨g, 0, none⟩) (hb9.mono (Nat.zero_le _)) (Nat.zero_le _) (.slice A3 ([] ++ es).length c3))
             have HG := Aside0.mk (And.intro hg hlt)
             have HWB := Aside0.mk HB.out.size
             clear hR hb3 hb9 hg hh hR0 hlt hg1 hat1)
          | fail)
        go_ret
        refine ⟨rfl, ⟨.inl HG.out.1, _, HH3.out, ?_⟩, HK3.out, HB3.out⟩
        exact Kd.R_mono (Kd.R_lower HR3.out (Nat.zero_le _)) (fun k hk => ⟨.inr (Nat.le_trans HWB.out hk), by have := HG.out.2; omega⟩)

end Go.Proofs.Ytahkokbfghifhaa.PS
