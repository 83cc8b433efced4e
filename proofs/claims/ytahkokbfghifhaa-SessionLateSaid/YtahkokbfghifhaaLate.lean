/- SessionLate: the walk. -/
import Derived.Test.YtahkokbfghifhaaLateL
import Derived.Test.YtahkokbfghifhaaFirst
import Derived.Test.YtahkokbfghifhaaProg
import Derived.Below
import Derived.Deep.Draws
import Derived.Deep.AppendLies
import Derived.Maps.AppendAt
import Derived.OwnWalk
import Derived.Laws.BytesArg
import Derived.Laws.MakeOwn
import Derived.Laws.OwnMore
import Derived.Deep.OwnRows
import Derived.Tactics
import Derived.Lib.ConvBytes
import Derived.Laws.Slices
import Derived.WalkKit
import Derived.KernelRfl
import Derived.RowKit3
import Derived.Deep.LoopGhost
import Derived.Deep.QuietTactic
import Derived.BigQuiet
import Derived.WideLaws
import Derived.Deep.DeepCutAuto
import Derived.Deep.CutBlock
import Derived.Deep.RegionHeld3
import Derived.Laws.Rows
import Derived.Lib.AppendStr
import Derived.ArgAppend
import Derived.Laws.IdiomCopy
import Derived.OrdersHeld
import Derived.Laws.BitsLemmas
import Derived.RowKit
import Derived.Test.YtahkokbfghifhaaWWords
import Derived.Test.YtahkokbfghifhaaWLast
import Derived.Test.YtahkokbfghifhaaWTab
import Derived.Test.YtahkokbfghifhaaWFour
import Derived.Test.YtahkokbfghifhaaWQPut
import Derived.Test.YtahkokbfghifhaaWApart
import Derived.Test.YtahkokbfghifhaaWArr
import Derived.Test.YtahkokbfghifhaaWZeros
import Derived.Test.YtahkokbfghifhaaWFoot
import Derived.Test.YtahkokbfghifhaaWKept
import Derived.Test.YtahkokbfghifhaaWShare
import Derived.Test.YtahkokbfghifhaaWN
import Derived.Test.YtahkokbfghifhaaWFootNe
import Derived.Test.YtahkokbfghifhaaWAt
import Derived.Test.YtahkokbfghifhaaWEqStruct
import Derived.Test.YtahkokbfghifhaaWRepsOne
import Derived.Test.YtahkokbfghifhaaWInv
import Derived.Test.YtahkokbfghifhaaWInvWords
import Derived.Test.YtahkokbfghifhaaWGuard
import Derived.Test.YtahkokbfghifhaaWNEv
import Derived.Test.YtahkokbfghifhaaWMore
namespace Go.Proofs.Ytahkokbfghifhaa.PS
open Go.RowKit Go.Proofs.YtahkokbfghifhaaW.PrintWords Go.Proofs.YtahkokbfghifhaaW.PrintLast Go.Proofs.YtahkokbfghifhaaW.PrintMore
set_option linter.unusedVariables false
set_option linter.unusedSimpArgs false
set_option maxHeartbeats 4000000
set_option maxRecDepth 100000

theorem late_law (A : Option Addr) (ca : Nat) (ts : List Int) (w : World) (hA : Kd.C (Kd.int .i64) w A ts.length ts) (hwf : ∀ n ∈ ts, (Lit.int .i64 n).wf = true) :
    Calls Try.prog 5 #[.slice A ts.length ca] w fun e w' => e = .returned (.bool true) ∧ Below w.heap.size w w' := by
  have HA := Aside0.mk hA
  have HN := Aside0.mk (Kd.C_max hA)
  clear hA hwf
  go_enter Try.func5, Try.ntmps5
  go_wp2_with fail
  refine (first_calls w).mono ?_
  rintro _ w1 ⟨rfl, hb⟩
  have hst := StI.made w w1 hb
  obtain ⟨w2, hw2⟩ : ∃ w2, w2 = w1.alloc (Obj.cells #[Value.slice none 0 0] 26) := ⟨_, rfl⟩
  obtain ⟨g, hg⟩ : ∃ g, g = w1.heap.size := ⟨_, rfl⟩
  have H2 := Aside0.mk (show StI w w2 g [] by rw [hw2, hg]; exact hst)
  have HW := Aside0.mk hw2
  have HG := Aside0.mk hg
  clear hst hw2 hg hb
  have V2 := Aside0.mk (show Inv [] 0 0 from ⟨by simp, by simp, .inl ⟨rfl, rfl⟩⟩)
  go_wp2_with fail
  rw [← HW.out, ← HG.out]
  clear HW HG
  generalize hL : ts.length = n at *
  have HLN := Aside0.mk hL
  clear hL
  go_loopw [4, 5, 13] (fun v4 v5 v13 wr => ∃ (i s : Nat) (last : Int) (es : List S45), v4 = .int .i64 last ∧ v5 = .int .i64 (s : Int) ∧ v13 = .int .i64 (i : Int) ∧ Aside0 (i ≤ n ∧ s ≤ i ∧ i ≤ 60 ∧ 0 ≤ last) ∧ Aside0 (StI w wr g es) ∧ Aside0 (Inv es last s)) (fun _ _ v13 _ => n - (intOf v13).toNat)
  case atStart => exact ⟨0, 0, 0, [], rfl, rfl, rfl, Aside0.mk ⟨Nat.zero_le _, Nat.zero_le _, by omega, Int.le_refl _⟩, H2, V2⟩
  case round =>
    obtain ⟨i, s, last, es, rfl, rfl, rfl, HI, HT, HV⟩ := hrel
    by_cases hin : i < n
    · have d1 : decide ((i : Int) < (n : Int)) = true := decide_eq_true (by omega)
      have hC2 := Kd.C_below HA.out HT.out.2
      obtain ⟨ad, rfl, hcell⟩ := Kd.at_int hC2 (i : Int) (by omega) (by omega)
      rw [Int.toNat_natCast] at hcell
      generalize rd ts (i : Int) = x at hcell
      have hin2 : (i : Int) < (n : Int) := by omega
      have hi0 : (0 : Int) ≤ (i : Int) := by omega
      have HIN := Aside0.mk hin
      clear hC2
      by_cases h60 : (60 : Int) ≤ (i : Int)
      · have d2 : decide ((i : Int) ≥ 60) = true := decide_eq_true h60
        clear h60
        go_wp2_with fail
        go_ret
        exact ⟨rfl, HT.out.2⟩
      · have d2 : decide ((i : Int) ≥ 60) = false := decide_eq_false h60
        have H60 := Aside0.mk h60
        have hwi : wrap64 ((i : Int) + 1) = ((i + 1 : Nat) : Int) := by unfold wrap64; omega
        have hws : wrap64 ((s : Int) + 1) = ((s + 1 : Nat) : Int) := by have := HI.out; unfold wrap64; omega
        clear h60
        by_cases he : (i : Int) % 2 = 0
        · have hop := open_callsI HT.out.1 x HV.out.1
          rw [HV.out.open_is x HI.out.2.2.2] at hop
          have HOP := Aside0.mk hop
          clear hop
          by_cases hx : x > last
          · have d4 : decide (x > last) = true := decide_eq_true hx
            have d5 : last < x := hx
            rw [d4] at HOP
            have HX := Aside0.mk hx
            have V3 := Aside0.mk (HV.out.opened x HI.out.2.2.2 (by omega) hx)
            clear hx
            go_wp2_with fail
            refine HOP.out.mono ?_
            clear HOP
            rintro _ w5 ⟨rfl, hl, hk, hb⟩
            have H5 := Aside0.mk (HT.out.next hl hk hb)
            clear hl hk hb HT hin hin2 d1
            go_wp2_with fail
            go_roundw
            case rel => exact ⟨i + 1, s, x, _, rfl, rfl, by rw [hwi], Aside0.mk (by have := HI.out; have := HIN.out; have := H60.out; have := HX.out; omega), H5, V3⟩
            case measure => have := HIN.out; rw [hwi]; simp [intOf]; omega
          · have d4 : decide (x > last) = false := decide_eq_false hx
            have d5 : x ≤ last := by omega
            have d6 : ¬ last < x := hx
            rw [d4] at HOP
            have HE := Aside0.mk (HV.out.refused x HI.out.2.2.2 hx)
            clear hx
            go_wp2_with fail
            refine HOP.out.mono ?_
            clear HOP
            rintro _ w5 ⟨rfl, hl, hk, hb⟩
            rw [HE.out] at hl
            have H5 := Aside0.mk (HT.out.next hl hk hb)
            clear hl hk hb HT hin hin2 d1
            go_wp2_with fail
            go_roundw
            case rel => exact ⟨i + 1, s, last, es, by first | rfl | (congr 1; omega), rfl, by rw [hwi], Aside0.mk (by have := HI.out; have := HIN.out; have := H60.out; omega), H5, HV⟩
            case measure => have := HIN.out; rw [hwi]; simp [intOf]; omega
        · have he1 : (i : Int) % 2 = 1 := by omega
          clear he
          have HRW := Aside0.mk (rows_callsI HT.out.1 HV.out.1)
          go_wp2_with fail
          refine HRW.out.mono ?_
          clear HRW
          rintro _ w5 ⟨v, rfl, hR, hb⟩
          obtain ⟨A2, c2, rfl, hc2, hC⟩ := Kd.R_reads hR
          have H5 := Aside0.mk (HT.out.below hb)
          clear hR hb HT hc2
          rcases Nat.eq_zero_or_pos es.length with hz | hz
          · have hz2 : ((es.length : Int) == 0) = true := by rw [hz]; rfl
            clear hC hz hin hin2 d1
            go_wp2_with fail
            go_roundw
            case rel => exact ⟨i + 1, s, last, es, rfl, rfl, by rw [hwi], Aside0.mk (by have := HI.out; have := HIN.out; have := H60.out; omega), H5, HV⟩
            case measure => have := HIN.out; rw [hwi]; simp [intOf]; omega
          · have hz2 : ((es.length : Int) == 0) = false := by rw [beq_eq_false_iff_ne]; omega
            obtain ⟨k, hk⟩ : ∃ k : Nat, es.length = k + 1 := ⟨es.length - 1, by omega⟩
            have hwk : wrap64 ((es.length : Int) - 1) = (k : Int) := by have := HV.out.1; unfold wrap64; omega
            obtain ⟨ad2, rfl, c0, c1, c2, c3⟩ := at_T45 hC (k : Int) (by omega) (by omega)
            rw [Int.toNat_natCast] at c0 c1 c2 c3
            have hkl : (k : Int) < (es.length : Int) := by omega
            have hk0 : (0 : Int) ≤ (k : Int) := by omega
            have hmem : rd_T45 es (k : Int) ∈ es := by
              have h9 : k < es.length := by omega
              simp [rd_T45, h9]
            generalize rd_T45 es (k : Int) = r at c0 c1 c2 c3 hmem
            have hdn := done_callsI H5.out.1 r.f0 ((s : Int) + 1) x 0
            rw [HV.out.done_is r hmem x] at hdn
            have V6 := Aside0.mk (HV.out.done_ r hmem x)
            rw [show ((s : Int) + 1) = ((s + 1 : Nat) : Int) from rfl] at hdn V6
            have HK := Aside0.mk hk
            have HDN := Aside0.mk hdn
            clear hdn hC hz hk hmem
            by_cases hx : x ≥ last
            · have d4 : decide (x ≥ last) = true := decide_eq_true hx
              rw [d4] at HDN
              have HMX := Aside0.mk (show max last x = x by omega)
              go_wp2_with fail
              refine HDN.out.mono ?_
              clear HDN
              rintro _ w6 ⟨rfl, hl, hk, hb⟩
              have H6 := Aside0.mk (H5.out.next hl hk hb)
              clear hl hk hb H5 c0 c1 c2 c3 hin hin2 d1
              go_wp2_with fail
              go_roundw
              case rel => exact ⟨i + 1, s + 1, max last x, _, by congr 1; split <;> omega, rfl, by rw [hwi], Aside0.mk (by have := HI.out; have := HIN.out; have := H60.out; omega), H6, V6⟩
              case measure => have := HIN.out; rw [hwi]; simp [intOf]; omega
            · have d4 : decide (x ≥ last) = false := decide_eq_false hx
              rw [d4] at HDN
              have HMX := Aside0.mk (show max last x = last by omega)
              go_wp2_with fail
              refine HDN.out.mono ?_
              clear HDN
              rintro _ w6 ⟨rfl, hl, hk, hb⟩
              have H6 := Aside0.mk (H5.out.next hl hk hb)
              clear hl hk hb H5 c0 c1 c2 c3 hin hin2 d1
              go_wp2_with fail
              go_roundw
              case rel => exact ⟨i + 1, s + 1, max last x, _, by congr 1; split <;> omega, rfl, by rw [hwi], Aside0.mk (by have := HI.out; have := HIN.out; have := H60.out; omega), H6, V6⟩
              case measure => have := HIN.out; rw [hwi]; simp [intOf]; omega
    · have d1 : decide ((i : Int) < (n : Int)) = false := decide_eq_false (by omega)
      have hin2 : ¬ (i : Int) < (n : Int) := by omega
      go_wp2_with fail
      go_ret
      exact ⟨rfl, HT.out.2⟩

end Go.Proofs.Ytahkokbfghifhaa.PS
