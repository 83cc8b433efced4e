/- The walk of MemberMeets. -/
import Derived.Test.YtknaffajmfimbaaMeL
namespace Go.Proofs.Ytknaffajmfimbaa.PMe
open Go.RowKit Go.Proofs.YtknaffajmfimbaaW.PrintWords Go.Proofs.YtknaffajmfimbaaW.PrintLast Go.Proofs.YtknaffajmfimbaaW.PrintMore
open Go.Proofs.Ytknaffajmfimbaa Go.Proofs.Ytknaffajmfimbaa.PL
open Go.Proofs.Ytknaffajmfimbaa.PW hiding right_is has_is right_loop index_loop
set_option linter.unusedVariables false
set_option linter.unusedSimpArgs false
set_option maxHeartbeats 4000000
set_option maxRecDepth 100000

set_option maxHeartbeats 8000000 in
theorem meets_calls (w : World) (A0 A1 A2 : Option Addr) (c0 c1 c2 : Nat) (l y0 y1 : List Int) (n : Int) (hCl : Kd.C (Kd.int .i64) w A0 l.length l) (hC0 : Kd.C (Kd.int .i64) w A1 y0.length y0) (hC1 : Kd.C (Kd.int .i64) w A2 y1.length y1) (h0 : l.length ≤ c0) (h1 : y0.length ≤ c1) (h2 : y1.length ≤ c2)
    (z0 : l.length ≤ 17592186044416) (z1 : y0.length ≤ 17592186044416) (z2 : y1.length ≤ 17592186044416) :
    Calls Try.prog 5 #[.slice A0 l.length c0, .int .i64 n, .agg #[.slice A1 y0.length c1, .slice A2 y1.length c2]] w fun e w' => e = .returned (.bool true) ∧ Below w.heap.size w w' := by
  have HCl := Aside0.mk hCl
  have HCy0 := Aside0.mk hC0
  have HCy1 := Aside0.mk hC1
  have HLl := Aside0.mk (And.intro h0 (show l.length ≤ 9223372036854775806 by omega))
  have HLy0 := Aside0.mk (And.intro h1 (show y0.length ≤ 9223372036854775806 by omega))
  have HLy1 := Aside0.mk (And.intro h2 (show y1.length ≤ 9223372036854775806 by omega))
  have HZ := Aside0.mk (And.intro z0 (And.intro z1 z2))
  clear hCl hC0 hC1 h0 h1 h2 z0 z1 z2
  have HB0 := Aside0.mk (below_alloc (Below.refl w.heap.size w) (Obj.cells #[.slice A1 y0.length c1, .slice A2 y1.length c2] 32))
  have HCA := Aside0.mk (show (w.alloc (.cells #[.slice A1 y0.length c1, .slice A2 y1.length c2] 32)).cell? ⟨w.heap.size, 0, none⟩ = some (.slice A1 y0.length c1) from (blk_cell (heap_alloc_new w _) 0).trans rfl)
  have HCB := Aside0.mk (show (w.alloc (.cells #[.slice A1 y0.length c1, .slice A2 y1.length c2] 32)).cell? ⟨w.heap.size, 1, none⟩ = some (.slice A2 y1.length c2) from (blk_cell (heap_alloc_new w _) 1).trans rfl)
  have HSZ := Aside0.mk (show w.heap.size + 1 ≤ (w.alloc (.cells #[.slice A1 y0.length c1, .slice A2 y1.length c2] 32)).heap.size by simp)
  have HF := Aside0.mk (PM.calepinlaw21_first.calls 60 true (w.alloc (.cells #[.slice A1 y0.length c1, .slice A2 y1.length c2] 32)) (PL.first_is 60 (by decide)))
  go_enter Try.func5, Try.ntmps5
  go_wp2_with fail
  refine HF.out.mono ?_
  rintro _ w1 ⟨rfl, hb⟩
  have HB1 := Aside0.mk (show Below (w.heap.size + 1) (w.alloc (.cells #[.slice A1 y0.length c1, .slice A2 y1.length c2] 32)) w1 from hb.mono HSZ.out)
  clear hb HF
  have cA := (HB1.out.cell (p := ⟨w.heap.size, 0, none⟩) (Nat.lt_succ_self _)).trans HCA.out
  have cB := (HB1.out.cell (p := ⟨w.heap.size, 1, none⟩) (Nat.lt_succ_self _)).trans HCB.out

  by_cases hs : wrap64 (wrap64 ((l.length : Int) + (y0.length : Int)) + (y1.length : Int)) > 100
  · have d1 : decide (wrap64 (wrap64 ((l.length : Int) + (y0.length : Int)) + (y1.length : Int)) > 100) = true := decide_eq_true hs
    clear hs
    have HBK := HB1
    go_wp2_with fail
    go_ret
    exact ⟨rfl, HB0.out.trans (HBK.out.mono (Nat.le_succ _))⟩

  have d1 : decide (wrap64 (wrap64 ((l.length : Int) + (y0.length : Int)) + (y1.length : Int)) > 100) = false := decide_eq_false hs
  have HLs := Aside0.mk (show l.length + y0.length + y1.length ≤ 100 by have := HZ.out; unfold wrap64 at hs; omega)
  clear hs
  have HRc := Aside0.mk (PM.member_Right.calls (l.length + 1) A0 c0 l _ w1 (Kd.C_below HCl.out (HB0.out.trans (HB1.out.mono (Nat.le_succ _)))) HLl.out.1 (PL.right_is l HLl.out.2 _ (Nat.lt_succ_self _)))
  cases hr : rightB l with
  | false =>
    rw [hr] at HRc
    clear hr
    go_wp2_with fail
    refine HRc.out.mono ?_
    rintro _ w2 ⟨rfl, hb⟩
    have hb2 := Drawn0.below hb
    have HB2 := Aside0.mk (HB1.out.trans ((hb2).mono (Nat.le_trans HSZ.out HB1.out.size)))

    have HBK := HB2
    clear hb hb2 HRc cA cB
    go_wp2_with fail
    go_ret
    exact ⟨rfl, HB0.out.trans (HBK.out.mono (Nat.le_succ _))⟩

  | true =>
    rw [hr] at HRc
    have HG := Aside0.mk ((rightB_iff l).1 hr)
    clear hr
    have HALL := Aside0.mk (meets_all l y0 y1 n HG.out)
    go_wp2_with fail
    refine HRc.out.mono ?_
    rintro _ w2 ⟨rfl, hb⟩
    have hb2 := Drawn0.below hb
    have HB2 := Aside0.mk (HB1.out.trans ((hb2).mono (Nat.le_trans HSZ.out HB1.out.size)))

    clear hb hb2 HRc cA cB d1
    have HWc := Aside0.mk (PM.member_With.calls A0 c0 l n (withB l n).1 (withB l n).2 w2 (Kd.C_below HCl.out (HB0.out.trans (HB2.out.mono (Nat.le_succ _)))) HLl.out.1 (by unfold PM.member_With.f; rw [if_pos (by have := HLs.out; omega)]))

    cases hx : (withB l n).2 with
    | true =>
      rw [hx] at HWc
      have HPL := Aside0.mk (HALL.out.1 hx).1
      have HLm7 := Aside0.mk (HALL.out.1 hx).2
      clear hx
      go_wp2_with fail
      refine HWc.out.mono ?_
      rintro _ w3 ⟨v3, rfl, hR, hb3⟩
      obtain ⟨Am, cm, rfl⟩ := Kd.R_slice hR
      have HB3 := Aside0.mk (HB2.out.trans ((hb3).mono (Nat.le_trans HSZ.out HB2.out.size)))

      have HR3 := Aside0.mk hR
      have HLm := Aside0.mk (And.intro (Kd.R_reads' hR).2.1 (show ((withB l n).1).length ≤ 9223372036854775806 by have := HLm7.out; omega))
      clear hR hb3 HWc
      have HCm0 := Aside0.mk (show Kd.C (Kd.int .i64) w3 Am ((withB l n).1).length ((withB l n).1) from (Kd.R_reads' HR3.out).2.2)
      have HST1 := Aside0.mk (PM.member_Step.calls (l.length + ((withB l n).1).length + 30) A0 c0 l Am cm ((withB l n).1) true w3 (Kd.C_below HCl.out (HB0.out.trans (HB3.out.mono (Nat.le_succ _)))) HLl.out.1 HCm0.out HLm.out.1 (by rw [PL.step_is l ((withB l n).1) (by have := HLs.out; omega) (by have := HLm7.out; omega) _ (by omega), HPL.out.1]))
      go_wp2_with fail
      refine HST1.out.mono ?_
      rintro _ w4 ⟨rfl, hb⟩
      have hb4 := Drawn0.below hb
      have HB4 := Aside0.mk (HB3.out.trans ((hb4).mono (Nat.le_trans HSZ.out HB3.out.size)))
      have HCm4 := Aside0.mk (Kd.C_below HCm0.out hb4)
      clear hb hb4 HST1 HCm0
      have HST2 := Aside0.mk (PM.member_Step.calls (((withB l n).1).length + l.length + 30) Am cm ((withB l n).1) A0 c0 l true w4 HCm4.out HLm.out.1 (Kd.C_below HCl.out (HB0.out.trans (HB4.out.mono (Nat.le_succ _)))) HLl.out.1 (by rw [PL.step_is ((withB l n).1) l (by have := HLm7.out; omega) (by have := HLs.out; omega) _ (by omega), HPL.out.2.1]))
      go_wp2_with fail
      refine HST2.out.mono ?_
      rintro _ w5 ⟨rfl, hb⟩
      have hb5 := Drawn0.below hb
      have HB5 := Aside0.mk (HB4.out.trans ((hb5).mono (Nat.le_trans HSZ.out HB4.out.size)))
      have HCm5 := Aside0.mk (Kd.C_below HCm4.out hb5)
      clear hb hb5 HST2 HCm4
      have cA := (HB5.out.cell (p := ⟨w.heap.size, 0, none⟩) (Nat.lt_succ_self _)).trans HCA.out
      have cB := (HB5.out.cell (p := ⟨w.heap.size, 1, none⟩) (Nat.lt_succ_self _)).trans HCB.out
      have HAG1 := Aside0.mk (PA.member_Agreed.calls (l.length + y0.length + 3) A0 c0 l A1 c1 y0 _ w5 (Kd.C_below HCl.out (HB0.out.trans (HB5.out.mono (Nat.le_succ _)))) HLl.out.1 (Kd.C_below HCy0.out (HB0.out.trans (HB5.out.mono (Nat.le_succ _)))) HLy0.out.1 (agreed_is l y0 (by have := HLs.out; omega) (by have := HLs.out; omega) _ (by omega)))
      cases ha : agreedB l y0 with
      | false =>
        rw [ha] at HAG1
        clear ha
        go_wp2_with fail
        refine HAG1.out.mono ?_
        rintro _ w6 ⟨rfl, hb⟩
        have hb6 := Drawn0.below hb
        have HB6 := Aside0.mk (HB5.out.trans ((hb6).mono (Nat.le_trans HSZ.out HB5.out.size)))
        have HBK := HB6
        clear hb hb6 HAG1 cA cB
        go_wp2_with fail
        go_ret
        exact ⟨rfl, HB0.out.trans (HBK.out.mono (Nat.le_succ _))⟩
      | true =>
        rw [ha] at HAG1
        have HA1 := Aside0.mk ha
        clear ha
        go_wp2_with fail
        refine HAG1.out.mono ?_
        rintro _ w7 ⟨rfl, hb⟩
        have hb7 := Drawn0.below hb
        have HB7 := Aside0.mk (HB5.out.trans ((hb7).mono (Nat.le_trans HSZ.out HB5.out.size)))
        have HCm7 := Aside0.mk (Kd.C_below HCm5.out hb7)
        clear hb hb7 HAG1 HCm5 cA cB
        have cA := (HB7.out.cell (p := ⟨w.heap.size, 0, none⟩) (Nat.lt_succ_self _)).trans HCA.out
        have cB := (HB7.out.cell (p := ⟨w.heap.size, 1, none⟩) (Nat.lt_succ_self _)).trans HCB.out
        have HAG2 := Aside0.mk (PA.member_Agreed.calls (((withB l n).1).length + y1.length + 3) Am cm ((withB l n).1) A2 c2 y1 _ w7 HCm7.out HLm.out.1 (Kd.C_below HCy1.out (HB0.out.trans (HB7.out.mono (Nat.le_succ _)))) HLy1.out.1 (agreed_is ((withB l n).1) y1 (by have := HLm7.out; omega) (by have := HLs.out; omega) _ (by omega)))
        cases ha : agreedB ((withB l n).1) y1 with
        | false =>
          rw [ha] at HAG2
          clear ha
          go_wp2_with fail
          refine HAG2.out.mono ?_
          rintro _ w6 ⟨rfl, hb⟩
          have hb6 := Drawn0.below hb
          have HB6 := Aside0.mk (HB7.out.trans ((hb6).mono (Nat.le_trans HSZ.out HB7.out.size)))
          have HBK := HB6
          clear hb hb6 HAG2 cA cB
          go_wp2_with fail
          go_ret
          exact ⟨rfl, HB0.out.trans (HBK.out.mono (Nat.le_succ _))⟩
        | true =>
          rw [ha] at HAG2
          have HEX := Aside0.mk (HPL.out.2.2 HA1.out ha)
          clear ha
          go_wp2_with fail
          refine HAG2.out.mono ?_
          rintro _ w6 ⟨rfl, hb⟩
          have hb6 := Drawn0.below hb
          have HB6 := Aside0.mk (HB7.out.trans ((hb6).mono (Nat.le_trans HSZ.out HB7.out.size)))
          have HCm := Aside0.mk (Kd.C_below HCm7.out hb6)
          clear hb hb6 HAG2 HCm7 cA cB
          have cA := (HB6.out.cell (p := ⟨w.heap.size, 0, none⟩) (Nat.lt_succ_self _)).trans HCA.out
          have cB := (HB6.out.cell (p := ⟨w.heap.size, 1, none⟩) (Nat.lt_succ_self _)).trans HCB.out
          go_wp2_with fail
          clear cA cB
          have V0 := Aside0.mk (Below.refl w6.heap.size w6)
          go_loopw [9, 67] (fun _ v67 wr => ∃ (i : Nat), v67 = .int .i64 (i : Int) ∧ Aside0 (i ≤ 7) ∧ Aside0 (∀ j : Nat, j < i → ¬ (l.contains (j : Int) = true ∧ ((withB l n).1).contains (j : Int) = true ∧ y0.contains (j : Int) = true ∧ y1.contains (j : Int) = true)) ∧ Aside0 (Below w6.heap.size w6 wr)) (fun _ v67 _ => 7 - (intOf v67).toNat)
          case atStart => exact ⟨0, rfl, Aside0.mk (Nat.zero_le _), Aside0.mk (fun j hj => absurd hj (Nat.not_lt_zero _)), V0⟩
          case round =>
            obtain ⟨i, rfl, HI, HJ, HBr⟩ := hrel
            have HB10 := Aside0.mk (HB6.out.trans (HBr.out.mono (Nat.le_trans HSZ.out HB6.out.size)))
            have HCm10 := Aside0.mk (Kd.C_below HCm.out HBr.out)
            by_cases hin : i < 7
            · have d1 : decide ((i : Int) < 7) = true := decide_eq_true (by omega)
              have HIN := Aside0.mk hin
              have hwi : wrap64 ((i : Int) + 1) = ((i + 1 : Nat) : Int) := by unfold wrap64; omega
              clear hin
              have HR10 := Aside0.mk (Below.refl wr.heap.size wr)
              have cA := (HB10.out.cell (p := ⟨w.heap.size, 0, none⟩) (Nat.lt_succ_self _)).trans HCA.out
              have cB := (HB10.out.cell (p := ⟨w.heap.size, 1, none⟩) (Nat.lt_succ_self _)).trans HCB.out
              have HCL := Aside0.mk (PM.member_Has.calls (l.length + 1) A0 c0 l (i : Int) _ wr (Kd.C_below HCl.out (HB0.out.trans (HB10.out.mono (Nat.le_succ _)))) HLl.out.1 (PL.has_is l (i : Int) HLl.out.2 _ (Nat.lt_succ_self _)))
              cases hq0 : l.contains (i : Int) with
              | false =>
                rw [hq0] at HCL
                have HQ0 := Aside0.mk hq0
                clear hq0
                go_wp2_with fail
                refine HCL.out.mono ?_
                rintro _ w11 ⟨rfl, hb⟩
                have hb := Drawn0.below hb
                have HR11 := Aside0.mk (HR10.out.trans (hb.mono HR10.out.size))
                have HB11 := Aside0.mk (HB10.out.trans (hb.mono (Nat.le_trans HSZ.out HB10.out.size)))
                clear hb HCL cA cB
                have cA := (HB11.out.cell (p := ⟨w.heap.size, 0, none⟩) (Nat.lt_succ_self _)).trans HCA.out
                have cB := (HB11.out.cell (p := ⟨w.heap.size, 1, none⟩) (Nat.lt_succ_self _)).trans HCB.out
                have HBK := HB11
                clear cA cB
                go_wp2_with fail
                go_roundw
                case rel => exact ⟨i + 1, by rw [hwi], Aside0.mk (by have := HIN.out; omega), Aside0.mk (fun j hj => by
                  by_cases e : j = i
                  · subst e; intro h; have h1 := h.1; rw [HQ0.out] at h1; cases h1
                  · exact HJ.out j (by omega)), Aside0.mk (HBr.out.trans (HR11.out.mono HBr.out.size))⟩
                case measure => have := HIN.out; rw [hwi]; simp [intOf]; omega
              | true =>
                rw [hq0] at HCL
                have HQ0 := Aside0.mk hq0
                clear hq0
                go_wp2_with fail
                refine HCL.out.mono ?_
                rintro _ w11 ⟨rfl, hb⟩
                have hb := Drawn0.below hb
                have HR11 := Aside0.mk (HR10.out.trans (hb.mono HR10.out.size))
                have HB11 := Aside0.mk (HB10.out.trans (hb.mono (Nat.le_trans HSZ.out HB10.out.size)))
                clear hb HCL cA cB
                have HCmk := Aside0.mk (Kd.C_below HCm10.out HR11.out)
                have cA := (HB11.out.cell (p := ⟨w.heap.size, 0, none⟩) (Nat.lt_succ_self _)).trans HCA.out
                have cB := (HB11.out.cell (p := ⟨w.heap.size, 1, none⟩) (Nat.lt_succ_self _)).trans HCB.out
                have HCL := Aside0.mk (PM.member_Has.calls (((withB l n).1).length + 1) Am cm ((withB l n).1) (i : Int) _ w11 HCmk.out HLm.out.1 (PL.has_is ((withB l n).1) (i : Int) HLm.out.2 _ (Nat.lt_succ_self _)))
                cases hq1 : ((withB l n).1).contains (i : Int) with
                | false =>
                  rw [hq1] at HCL
                  have HQ1 := Aside0.mk hq1
                  clear hq1
                  go_wp2_with fail
                  refine HCL.out.mono ?_
                  rintro _ w12 ⟨rfl, hb⟩
                  have hb := Drawn0.below hb
                  have HR12 := Aside0.mk (HR11.out.trans (hb.mono HR11.out.size))
                  have HB12 := Aside0.mk (HB11.out.trans (hb.mono (Nat.le_trans HSZ.out HB11.out.size)))
                  clear hb HCL cA cB
                  have cA := (HB12.out.cell (p := ⟨w.heap.size, 0, none⟩) (Nat.lt_succ_self _)).trans HCA.out
                  have cB := (HB12.out.cell (p := ⟨w.heap.size, 1, none⟩) (Nat.lt_succ_self _)).trans HCB.out
                  have HBK := HB12
                  clear cA cB
                  go_wp2_with fail
                  go_roundw
                  case rel => exact ⟨i + 1, by rw [hwi], Aside0.mk (by have := HIN.out; omega), Aside0.mk (fun j hj => by
                    by_cases e : j = i
                    · subst e; intro h; have h1 := h.2.1; rw [HQ1.out] at h1; cases h1
                    · exact HJ.out j (by omega)), Aside0.mk (HBr.out.trans (HR12.out.mono HBr.out.size))⟩
                  case measure => have := HIN.out; rw [hwi]; simp [intOf]; omega
                | true =>
                  rw [hq1] at HCL
                  have HQ1 := Aside0.mk hq1
                  clear hq1
                  go_wp2_with fail
                  refine HCL.out.mono ?_
                  rintro _ w12 ⟨rfl, hb⟩
                  have hb := Drawn0.below hb
                  have HR12 := Aside0.mk (HR11.out.trans (hb.mono HR11.out.size))
                  have HB12 := Aside0.mk (HB11.out.trans (hb.mono (Nat.le_trans HSZ.out HB11.out.size)))
                  clear hb HCL cA cB
                  have cA := (HB12.out.cell (p := ⟨w.heap.size, 0, none⟩) (Nat.lt_succ_self _)).trans HCA.out
                  have cB := (HB12.out.cell (p := ⟨w.heap.size, 1, none⟩) (Nat.lt_succ_self _)).trans HCB.out
                  have HCL := Aside0.mk (PM.member_Has.calls (y0.length + 1) A1 c1 y0 (i : Int) _ w12 (Kd.C_below HCy0.out (HB0.out.trans (HB12.out.mono (Nat.le_succ _)))) HLy0.out.1 (PL.has_is y0 (i : Int) HLy0.out.2 _ (Nat.lt_succ_self _)))
                  cases hq2 : y0.contains (i : Int) with
                  | false =>
                    rw [hq2] at HCL
                    have HQ2 := Aside0.mk hq2
                    clear hq2
                    go_wp2_with fail
                    refine HCL.out.mono ?_
                    rintro _ w13 ⟨rfl, hb⟩
                    have hb := Drawn0.below hb
                    have HR13 := Aside0.mk (HR12.out.trans (hb.mono HR12.out.size))
                    have HB13 := Aside0.mk (HB12.out.trans (hb.mono (Nat.le_trans HSZ.out HB12.out.size)))
                    clear hb HCL cA cB
                    have cA := (HB13.out.cell (p := ⟨w.heap.size, 0, none⟩) (Nat.lt_succ_self _)).trans HCA.out
                    have cB := (HB13.out.cell (p := ⟨w.heap.size, 1, none⟩) (Nat.lt_succ_self _)).trans HCB.out
                    have HBK := HB13
                    clear cA cB
                    go_wp2_with fail
                    go_roundw
                    case rel => exact ⟨i + 1, by rw [hwi], Aside0.mk (by have := HIN.out; omega), Aside0.mk (fun j hj => by
                      by_cases e : j = i
                      · subst e; intro h; have h1 := h.2.2.1; rw [HQ2.out] at h1; cases h1
                      · exact HJ.out j (by omega)), Aside0.mk (HBr.out.trans (HR13.out.mono HBr.out.size))⟩
                    case measure => have := HIN.out; rw [hwi]; simp [intOf]; omega
                  | true =>
                    rw [hq2] at HCL
                    have HQ2 := Aside0.mk hq2
                    clear hq2
                    go_wp2_with fail
                    refine HCL.out.mono ?_
                    rintro _ w13 ⟨rfl, hb⟩
                    have hb := Drawn0.below hb
                    have HR13 := Aside0.mk (HR12.out.trans (hb.mono HR12.out.size))
                    have HB13 := Aside0.mk (HB12.out.trans (hb.mono (Nat.le_trans HSZ.out HB12.out.size)))
                    clear hb HCL cA cB
                    have cA := (HB13.out.cell (p := ⟨w.heap.size, 0, none⟩) (Nat.lt_succ_self _)).trans HCA.out
                    have cB := (HB13.out.cell (p := ⟨w.heap.size, 1, none⟩) (Nat.lt_succ_self _)).trans HCB.out
                    have HCL := Aside0.mk (PM.member_Has.calls (y1.length + 1) A2 c2 y1 (i : Int) _ w13 (Kd.C_below HCy1.out (HB0.out.trans (HB13.out.mono (Nat.le_succ _)))) HLy1.out.1 (PL.has_is y1 (i : Int) HLy1.out.2 _ (Nat.lt_succ_self _)))
                    cases hq3 : y1.contains (i : Int) with
                    | false =>
                      rw [hq3] at HCL
                      have HQ3 := Aside0.mk hq3
                      clear hq3
                      go_wp2_with fail
                      refine HCL.out.mono ?_
                      rintro _ w14 ⟨rfl, hb⟩
                      have hb := Drawn0.below hb
                      have HR14 := Aside0.mk (HR13.out.trans (hb.mono HR13.out.size))
                      have HB14 := Aside0.mk (HB13.out.trans (hb.mono (Nat.le_trans HSZ.out HB13.out.size)))
                      clear hb HCL cA cB
                      have cA := (HB14.out.cell (p := ⟨w.heap.size, 0, none⟩) (Nat.lt_succ_self _)).trans HCA.out
                      have cB := (HB14.out.cell (p := ⟨w.heap.size, 1, none⟩) (Nat.lt_succ_self _)).trans HCB.out
                      have HBK := HB14
                      clear cA cB
                      go_wp2_with fail
                      go_roundw
                      case rel => exact ⟨i + 1, by rw [hwi], Aside0.mk (by have := HIN.out; omega), Aside0.mk (fun j hj => by
                        by_cases e : j = i
                        · subst e; intro h; have h1 := h.2.2.2; rw [HQ3.out] at h1; cases h1
                        · exact HJ.out j (by omega)), Aside0.mk (HBr.out.trans (HR14.out.mono HBr.out.size))⟩
                      case measure => have := HIN.out; rw [hwi]; simp [intOf]; omega
                    | true =>
                      rw [hq3] at HCL
                      have HQ3 := Aside0.mk hq3
                      clear hq3
                      go_wp2_with fail
                      refine HCL.out.mono ?_
                      rintro _ w14 ⟨rfl, hb⟩
                      have hb := Drawn0.below hb
                      have HR14 := Aside0.mk (HR13.out.trans (hb.mono HR13.out.size))
                      have HB14 := Aside0.mk (HB13.out.trans (hb.mono (Nat.le_trans HSZ.out HB13.out.size)))
                      clear hb HCL cA cB
                      have HBK := HB14
                      have cA := (HB14.out.cell (p := ⟨w.heap.size, 0, none⟩) (Nat.lt_succ_self _)).trans HCA.out
                      have cB := (HB14.out.cell (p := ⟨w.heap.size, 1, none⟩) (Nat.lt_succ_self _)).trans HCB.out
                      clear cA cB
                      go_wp2_with fail
                      go_ret
                      exact ⟨rfl, HB0.out.trans (HBK.out.mono (Nat.le_succ _))⟩
            · exfalso
              obtain ⟨j, hj, h1⟩ := HEX.out
              exact HJ.out j (by omega) h1

    | false =>
      rw [hx] at HWc
      have HX := Aside0.mk hx
      clear hx
      go_wp2_with fail
      refine HWc.out.mono ?_
      rintro _ w3 ⟨v3, rfl, hR, hb3⟩
      obtain ⟨Ao, co, rfl⟩ := Kd.R_slice hR
      have HB3 := Aside0.mk (HB2.out.trans ((hb3).mono (Nat.le_trans HSZ.out HB2.out.size)))

      clear hR hb3 HWc
      generalize ((withB l n).1).length = mo at *
      have HWo := Aside0.mk (PM.member_Without.calls A0 c0 l n (withoutB l n).1 (withoutB l n).2 w3 (Kd.C_below HCl.out (HB0.out.trans (HB3.out.mono (Nat.le_succ _)))) HLl.out.1 (by unfold PM.member_Without.f; rw [if_pos (by have := HLs.out; omega)]))
      cases hx : (withoutB l n).2 with
      | true =>
        rw [hx] at HWo
        have HPL := Aside0.mk (HALL.out.2.1 HX.out hx).1
        have HLm7 := Aside0.mk (HALL.out.2.1 HX.out hx).2
        clear hx
        go_wp2_with fail
        refine HWo.out.mono ?_
        rintro _ w9 ⟨v9, rfl, hR, hb9⟩
        obtain ⟨Am, cm, rfl⟩ := Kd.R_slice hR
        have HB9 := Aside0.mk (HB3.out.trans ((hb9).mono (Nat.le_trans HSZ.out HB3.out.size)))

        have HR9 := Aside0.mk hR
        have HLm := Aside0.mk (And.intro (Kd.R_reads' hR).2.1 (show ((withoutB l n).1).length ≤ 9223372036854775806 by have := HLm7.out; omega))
        clear hR hb9 HWo
        have HCm0 := Aside0.mk (show Kd.C (Kd.int .i64) w9 Am ((withoutB l n).1).length ((withoutB l n).1) from (Kd.R_reads' HR9.out).2.2)
        have HST1 := Aside0.mk (PM.member_Step.calls (l.length + ((withoutB l n).1).length + 30) A0 c0 l Am cm ((withoutB l n).1) true w9 (Kd.C_below HCl.out (HB0.out.trans (HB9.out.mono (Nat.le_succ _)))) HLl.out.1 HCm0.out HLm.out.1 (by rw [PL.step_is l ((withoutB l n).1) (by have := HLs.out; omega) (by have := HLm7.out; omega) _ (by omega), HPL.out.1]))
        go_wp2_with fail
        refine HST1.out.mono ?_
        rintro _ w4 ⟨rfl, hb⟩
        have hb4 := Drawn0.below hb
        have HB4 := Aside0.mk (HB9.out.trans ((hb4).mono (Nat.le_trans HSZ.out HB9.out.size)))
        have HCm4 := Aside0.mk (Kd.C_below HCm0.out hb4)
        clear hb hb4 HST1 HCm0
        have HST2 := Aside0.mk (PM.member_Step.calls (((withoutB l n).1).length + l.length + 30) Am cm ((withoutB l n).1) A0 c0 l true w4 HCm4.out HLm.out.1 (Kd.C_below HCl.out (HB0.out.trans (HB4.out.mono (Nat.le_succ _)))) HLl.out.1 (by rw [PL.step_is ((withoutB l n).1) l (by have := HLm7.out; omega) (by have := HLs.out; omega) _ (by omega), HPL.out.2.1]))
        go_wp2_with fail
        refine HST2.out.mono ?_
        rintro _ w5 ⟨rfl, hb⟩
        have hb5 := Drawn0.below hb
        have HB5 := Aside0.mk (HB4.out.trans ((hb5).mono (Nat.le_trans HSZ.out HB4.out.size)))
        have HCm5 := Aside0.mk (Kd.C_below HCm4.out hb5)
        clear hb hb5 HST2 HCm4
        have cA := (HB5.out.cell (p := ⟨w.heap.size, 0, none⟩) (Nat.lt_succ_self _)).trans HCA.out
        have cB := (HB5.out.cell (p := ⟨w.heap.size, 1, none⟩) (Nat.lt_succ_self _)).trans HCB.out
        have HAG1 := Aside0.mk (PA.member_Agreed.calls (l.length + y0.length + 3) A0 c0 l A1 c1 y0 _ w5 (Kd.C_below HCl.out (HB0.out.trans (HB5.out.mono (Nat.le_succ _)))) HLl.out.1 (Kd.C_below HCy0.out (HB0.out.trans (HB5.out.mono (Nat.le_succ _)))) HLy0.out.1 (agreed_is l y0 (by have := HLs.out; omega) (by have := HLs.out; omega) _ (by omega)))
        cases ha : agreedB l y0 with
        | false =>
          rw [ha] at HAG1
          clear ha
          go_wp2_with fail
          refine HAG1.out.mono ?_
          rintro _ w6 ⟨rfl, hb⟩
          have hb6 := Drawn0.below hb
          have HB6 := Aside0.mk (HB5.out.trans ((hb6).mono (Nat.le_trans HSZ.out HB5.out.size)))
          have HBK := HB6
          clear hb hb6 HAG1 cA cB
          go_wp2_with fail
          go_ret
          exact ⟨rfl, HB0.out.trans (HBK.out.mono (Nat.le_succ _))⟩
        | true =>
          rw [ha] at HAG1
          have HA1 := Aside0.mk ha
          clear ha
          go_wp2_with fail
          refine HAG1.out.mono ?_
          rintro _ w7 ⟨rfl, hb⟩
          have hb7 := Drawn0.below hb
          have HB7 := Aside0.mk (HB5.out.trans ((hb7).mono (Nat.le_trans HSZ.out HB5.out.size)))
          have HCm7 := Aside0.mk (Kd.C_below HCm5.out hb7)
          clear hb hb7 HAG1 HCm5 cA cB
          have cA := (HB7.out.cell (p := ⟨w.heap.size, 0, none⟩) (Nat.lt_succ_self _)).trans HCA.out
          have cB := (HB7.out.cell (p := ⟨w.heap.size, 1, none⟩) (Nat.lt_succ_self _)).trans HCB.out
          have HAG2 := Aside0.mk (PA.member_Agreed.calls (((withoutB l n).1).length + y1.length + 3) Am cm ((withoutB l n).1) A2 c2 y1 _ w7 HCm7.out HLm.out.1 (Kd.C_below HCy1.out (HB0.out.trans (HB7.out.mono (Nat.le_succ _)))) HLy1.out.1 (agreed_is ((withoutB l n).1) y1 (by have := HLm7.out; omega) (by have := HLs.out; omega) _ (by omega)))
          cases ha : agreedB ((withoutB l n).1) y1 with
          | false =>
            rw [ha] at HAG2
            clear ha
            go_wp2_with fail
            refine HAG2.out.mono ?_
            rintro _ w6 ⟨rfl, hb⟩
            have hb6 := Drawn0.below hb
            have HB6 := Aside0.mk (HB7.out.trans ((hb6).mono (Nat.le_trans HSZ.out HB7.out.size)))
            have HBK := HB6
            clear hb hb6 HAG2 cA cB
            go_wp2_with fail
            go_ret
            exact ⟨rfl, HB0.out.trans (HBK.out.mono (Nat.le_succ _))⟩
          | true =>
            rw [ha] at HAG2
            have HEX := Aside0.mk (HPL.out.2.2 HA1.out ha)
            clear ha
            go_wp2_with fail
            refine HAG2.out.mono ?_
            rintro _ w6 ⟨rfl, hb⟩
            have hb6 := Drawn0.below hb
            have HB6 := Aside0.mk (HB7.out.trans ((hb6).mono (Nat.le_trans HSZ.out HB7.out.size)))
            have HCm := Aside0.mk (Kd.C_below HCm7.out hb6)
            clear hb hb6 HAG2 HCm7 cA cB
            have cA := (HB6.out.cell (p := ⟨w.heap.size, 0, none⟩) (Nat.lt_succ_self _)).trans HCA.out
            have cB := (HB6.out.cell (p := ⟨w.heap.size, 1, none⟩) (Nat.lt_succ_self _)).trans HCB.out
            go_wp2_with fail
            clear cA cB
            have V0 := Aside0.mk (Below.refl w6.heap.size w6)
            go_loopw [9, 67] (fun _ v67 wr => ∃ (i : Nat), v67 = .int .i64 (i : Int) ∧ Aside0 (i ≤ 7) ∧ Aside0 (∀ j : Nat, j < i → ¬ (l.contains (j : Int) = true ∧ ((withoutB l n).1).contains (j : Int) = true ∧ y0.contains (j : Int) = true ∧ y1.contains (j : Int) = true)) ∧ Aside0 (Below w6.heap.size w6 wr)) (fun _ v67 _ => 7 - (intOf v67).toNat)
            case atStart => exact ⟨0, rfl, Aside0.mk (Nat.zero_le _), Aside0.mk (fun j hj => absurd hj (Nat.not_lt_zero _)), V0⟩
            case round =>
              obtain ⟨i, rfl, HI, HJ, HBr⟩ := hrel
              have HB10 := Aside0.mk (HB6.out.trans (HBr.out.mono (Nat.le_trans HSZ.out HB6.out.size)))
              have HCm10 := Aside0.mk (Kd.C_below HCm.out HBr.out)
              by_cases hin : i < 7
              · have d1 : decide ((i : Int) < 7) = true := decide_eq_true (by omega)
                have HIN := Aside0.mk hin
                have hwi : wrap64 ((i : Int) + 1) = ((i + 1 : Nat) : Int) := by unfold wrap64; omega
                clear hin
                have HR10 := Aside0.mk (Below.refl wr.heap.size wr)
                have cA := (HB10.out.cell (p := ⟨w.heap.size, 0, none⟩) (Nat.lt_succ_self _)).trans HCA.out
                have cB := (HB10.out.cell (p := ⟨w.heap.size, 1, none⟩) (Nat.lt_succ_self _)).trans HCB.out
                have HCL := Aside0.mk (PM.member_Has.calls (l.length + 1) A0 c0 l (i : Int) _ wr (Kd.C_below HCl.out (HB0.out.trans (HB10.out.mono (Nat.le_succ _)))) HLl.out.1 (PL.has_is l (i : Int) HLl.out.2 _ (Nat.lt_succ_self _)))
                cases hq0 : l.contains (i : Int) with
                | false =>
                  rw [hq0] at HCL
                  have HQ0 := Aside0.mk hq0
                  clear hq0
                  go_wp2_with fail
                  refine HCL.out.mono ?_
                  rintro _ w11 ⟨rfl, hb⟩
                  have hb := Drawn0.below hb
                  have HR11 := Aside0.mk (HR10.out.trans (hb.mono HR10.out.size))
                  have HB11 := Aside0.mk (HB10.out.trans (hb.mono (Nat.le_trans HSZ.out HB10.out.size)))
                  clear hb HCL cA cB
                  have cA := (HB11.out.cell (p := ⟨w.heap.size, 0, none⟩) (Nat.lt_succ_self _)).trans HCA.out
                  have cB := (HB11.out.cell (p := ⟨w.heap.size, 1, none⟩) (Nat.lt_succ_self _)).trans HCB.out
                  have HBK := HB11
                  clear cA cB
                  go_wp2_with fail
                  go_roundw
                  case rel => exact ⟨i + 1, by rw [hwi], Aside0.mk (by have := HIN.out; omega), Aside0.mk (fun j hj => by
                    by_cases e : j = i
                    · subst e; intro h; have h1 := h.1; rw [HQ0.out] at h1; cases h1
                    · exact HJ.out j (by omega)), Aside0.mk (HBr.out.trans (HR11.out.mono HBr.out.size))⟩
                  case measure => have := HIN.out; rw [hwi]; simp [intOf]; omega
                | true =>
                  rw [hq0] at HCL
                  have HQ0 := Aside0.mk hq0
                  clear hq0
                  go_wp2_with fail
                  refine HCL.out.mono ?_
                  rintro _ w11 ⟨rfl, hb⟩
                  have hb := Drawn0.below hb
                  have HR11 := Aside0.mk (HR10.out.trans (hb.mono HR10.out.size))
                  have HB11 := Aside0.mk (HB10.out.trans (hb.mono (Nat.le_trans HSZ.out HB10.out.size)))
                  clear hb HCL cA cB
                  have HCmk := Aside0.mk (Kd.C_below HCm10.out HR11.out)
                  have cA := (HB11.out.cell (p := ⟨w.heap.size, 0, none⟩) (Nat.lt_succ_self _)).trans HCA.out
                  have cB := (HB11.out.cell (p := ⟨w.heap.size, 1, none⟩) (Nat.lt_succ_self _)).trans HCB.out
                  have HCL := Aside0.mk (PM.member_Has.calls (((withoutB l n).1).length + 1) Am cm ((withoutB l n).1) (i : Int) _ w11 HCmk.out HLm.out.1 (PL.has_is ((withoutB l n).1) (i : Int) HLm.out.2 _ (Nat.lt_succ_self _)))
                  cases hq1 : ((withoutB l n).1).contains (i : Int) with
                  | false =>
                    rw [hq1] at HCL
                    have HQ1 := Aside0.mk hq1
                    clear hq1
                    go_wp2_with fail
                    refine HCL.out.mono ?_
                    rintro _ w12 ⟨rfl, hb⟩
                    have hb := Drawn0.below hb
                    have HR12 := Aside0.mk (HR11.out.trans (hb.mono HR11.out.size))
                    have HB12 := Aside0.mk (HB11.out.trans (hb.mono (Nat.le_trans HSZ.out HB11.out.size)))
                    clear hb HCL cA cB
                    have cA := (HB12.out.cell (p := ⟨w.heap.size, 0, none⟩) (Nat.lt_succ_self _)).trans HCA.out
                    have cB := (HB12.out.cell (p := ⟨w.heap.size, 1, none⟩) (Nat.lt_succ_self _)).trans HCB.out
                    have HBK := HB12
                    clear cA cB
                    go_wp2_with fail
                    go_roundw
                    case rel => exact ⟨i + 1, by rw [hwi], Aside0.mk (by have := HIN.out; omega), Aside0.mk (fun j hj => by
                      by_cases e : j = i
                      · subst e; intro h; have h1 := h.2.1; rw [HQ1.out] at h1; cases h1
                      · exact HJ.out j (by omega)), Aside0.mk (HBr.out.trans (HR12.out.mono HBr.out.size))⟩
                    case measure => have := HIN.out; rw [hwi]; simp [intOf]; omega
                  | true =>
                    rw [hq1] at HCL
                    have HQ1 := Aside0.mk hq1
                    clear hq1
                    go_wp2_with fail
                    refine HCL.out.mono ?_
                    rintro _ w12 ⟨rfl, hb⟩
                    have hb := Drawn0.below hb
                    have HR12 := Aside0.mk (HR11.out.trans (hb.mono HR11.out.size))
                    have HB12 := Aside0.mk (HB11.out.trans (hb.mono (Nat.le_trans HSZ.out HB11.out.size)))
                    clear hb HCL cA cB
                    have cA := (HB12.out.cell (p := ⟨w.heap.size, 0, none⟩) (Nat.lt_succ_self _)).trans HCA.out
                    have cB := (HB12.out.cell (p := ⟨w.heap.size, 1, none⟩) (Nat.lt_succ_self _)).trans HCB.out
                    have HCL := Aside0.mk (PM.member_Has.calls (y0.length + 1) A1 c1 y0 (i : Int) _ w12 (Kd.C_below HCy0.out (HB0.out.trans (HB12.out.mono (Nat.le_succ _)))) HLy0.out.1 (PL.has_is y0 (i : Int) HLy0.out.2 _ (Nat.lt_succ_self _)))
                    cases hq2 : y0.contains (i : Int) with
                    | false =>
                      rw [hq2] at HCL
                      have HQ2 := Aside0.mk hq2
                      clear hq2
                      go_wp2_with fail
                      refine HCL.out.mono ?_
                      rintro _ w13 ⟨rfl, hb⟩
                      have hb := Drawn0.below hb
                      have HR13 := Aside0.mk (HR12.out.trans (hb.mono HR12.out.size))
                      have HB13 := Aside0.mk (HB12.out.trans (hb.mono (Nat.le_trans HSZ.out HB12.out.size)))
                      clear hb HCL cA cB
                      have cA := (HB13.out.cell (p := ⟨w.heap.size, 0, none⟩) (Nat.lt_succ_self _)).trans HCA.out
                      have cB := (HB13.out.cell (p := ⟨w.heap.size, 1, none⟩) (Nat.lt_succ_self _)).trans HCB.out
                      have HBK := HB13
                      clear cA cB
                      go_wp2_with fail
                      go_roundw
                      case rel => exact ⟨i + 1, by rw [hwi], Aside0.mk (by have := HIN.out; omega), Aside0.mk (fun j hj => by
                        by_cases e : j = i
                        · subst e; intro h; have h1 := h.2.2.1; rw [HQ2.out] at h1; cases h1
                        · exact HJ.out j (by omega)), Aside0.mk (HBr.out.trans (HR13.out.mono HBr.out.size))⟩
                      case measure => have := HIN.out; rw [hwi]; simp [intOf]; omega
                    | true =>
                      rw [hq2] at HCL
                      have HQ2 := Aside0.mk hq2
                      clear hq2
                      go_wp2_with fail
                      refine HCL.out.mono ?_
                      rintro _ w13 ⟨rfl, hb⟩
                      have hb := Drawn0.below hb
                      have HR13 := Aside0.mk (HR12.out.trans (hb.mono HR12.out.size))
                      have HB13 := Aside0.mk (HB12.out.trans (hb.mono (Nat.le_trans HSZ.out HB12.out.size)))
                      clear hb HCL cA cB
                      have cA := (HB13.out.cell (p := ⟨w.heap.size, 0, none⟩) (Nat.lt_succ_self _)).trans HCA.out
                      have cB := (HB13.out.cell (p := ⟨w.heap.size, 1, none⟩) (Nat.lt_succ_self _)).trans HCB.out
                      have HCL := Aside0.mk (PM.member_Has.calls (y1.length + 1) A2 c2 y1 (i : Int) _ w13 (Kd.C_below HCy1.out (HB0.out.trans (HB13.out.mono (Nat.le_succ _)))) HLy1.out.1 (PL.has_is y1 (i : Int) HLy1.out.2 _ (Nat.lt_succ_self _)))
                      cases hq3 : y1.contains (i : Int) with
                      | false =>
                        rw [hq3] at HCL
                        have HQ3 := Aside0.mk hq3
                        clear hq3
                        go_wp2_with fail
                        refine HCL.out.mono ?_
                        rintro _ w14 ⟨rfl, hb⟩
                        have hb := Drawn0.below hb
                        have HR14 := Aside0.mk (HR13.out.trans (hb.mono HR13.out.size))
                        have HB14 := Aside0.mk (HB13.out.trans (hb.mono (Nat.le_trans HSZ.out HB13.out.size)))
                        clear hb HCL cA cB
                        have cA := (HB14.out.cell (p := ⟨w.heap.size, 0, none⟩) (Nat.lt_succ_self _)).trans HCA.out
                        have cB := (HB14.out.cell (p := ⟨w.heap.size, 1, none⟩) (Nat.lt_succ_self _)).trans HCB.out
                        have HBK := HB14
                        clear cA cB
                        go_wp2_with fail
                        go_roundw
                        case rel => exact ⟨i + 1, by rw [hwi], Aside0.mk (by have := HIN.out; omega), Aside0.mk (fun j hj => by
                          by_cases e : j = i
                          · subst e; intro h; have h1 := h.2.2.2; rw [HQ3.out] at h1; cases h1
                          · exact HJ.out j (by omega)), Aside0.mk (HBr.out.trans (HR14.out.mono HBr.out.size))⟩
                        case measure => have := HIN.out; rw [hwi]; simp [intOf]; omega
                      | true =>
                        rw [hq3] at HCL
                        have HQ3 := Aside0.mk hq3
                        clear hq3
                        go_wp2_with fail
                        refine HCL.out.mono ?_
                        rintro _ w14 ⟨rfl, hb⟩
                        have hb := Drawn0.below hb
                        have HR14 := Aside0.mk (HR13.out.trans (hb.mono HR13.out.size))
                        have HB14 := Aside0.mk (HB13.out.trans (hb.mono (Nat.le_trans HSZ.out HB13.out.size)))
                        clear hb HCL cA cB
                        have HBK := HB14
                        have cA := (HB14.out.cell (p := ⟨w.heap.size, 0, none⟩) (Nat.lt_succ_self _)).trans HCA.out
                        have cB := (HB14.out.cell (p := ⟨w.heap.size, 1, none⟩) (Nat.lt_succ_self _)).trans HCB.out
                        clear cA cB
                        go_wp2_with fail
                        go_ret
                        exact ⟨rfl, HB0.out.trans (HBK.out.mono (Nat.le_succ _))⟩
              · exfalso
                obtain ⟨j, hj, h1⟩ := HEX.out
                exact HJ.out j (by omega) h1

      | false =>
        rw [hx] at HWo
        have HPL := Aside0.mk (HALL.out.2.2)
        have HLm7 := Aside0.mk (show l.length ≤ 8 by have := good_le HG.out; omega)
        have HLm := HLl
        clear hx
        go_wp2_with fail
        refine HWo.out.mono ?_
        rintro _ w9 ⟨v9, rfl, hR, hb9⟩
        obtain ⟨Ao2, co2, rfl⟩ := Kd.R_slice hR
        have HB9 := Aside0.mk (HB3.out.trans ((hb9).mono (Nat.le_trans HSZ.out HB3.out.size)))

        clear hR hb9 HWo
        generalize ((withoutB l n).1).length = mo2 at *
        have HCm0 := Aside0.mk (show Kd.C (Kd.int .i64) w9 A0 (l).length (l) from (Kd.C_below HCl.out (HB0.out.trans (HB9.out.mono (Nat.le_succ _)))))
        have HST1 := Aside0.mk (PM.member_Step.calls (l.length + (l).length + 30) A0 c0 l A0 c0 (l) true w9 (Kd.C_below HCl.out (HB0.out.trans (HB9.out.mono (Nat.le_succ _)))) HLl.out.1 HCm0.out HLm.out.1 (by rw [PL.step_is l (l) (by have := HLs.out; omega) (by have := HLm7.out; omega) _ (by omega), HPL.out.1]))
        go_wp2_with fail
        refine HST1.out.mono ?_
        rintro _ w4 ⟨rfl, hb⟩
        have hb4 := Drawn0.below hb
        have HB4 := Aside0.mk (HB9.out.trans ((hb4).mono (Nat.le_trans HSZ.out HB9.out.size)))
        have HCm4 := Aside0.mk (Kd.C_below HCm0.out hb4)
        clear hb hb4 HST1 HCm0
        have HST2 := Aside0.mk (PM.member_Step.calls ((l).length + l.length + 30) A0 c0 (l) A0 c0 l true w4 HCm4.out HLm.out.1 (Kd.C_below HCl.out (HB0.out.trans (HB4.out.mono (Nat.le_succ _)))) HLl.out.1 (by rw [PL.step_is (l) l (by have := HLm7.out; omega) (by have := HLs.out; omega) _ (by omega), HPL.out.2.1]))
        go_wp2_with fail
        refine HST2.out.mono ?_
        rintro _ w5 ⟨rfl, hb⟩
        have hb5 := Drawn0.below hb
        have HB5 := Aside0.mk (HB4.out.trans ((hb5).mono (Nat.le_trans HSZ.out HB4.out.size)))
        have HCm5 := Aside0.mk (Kd.C_below HCm4.out hb5)
        clear hb hb5 HST2 HCm4
        have cA := (HB5.out.cell (p := ⟨w.heap.size, 0, none⟩) (Nat.lt_succ_self _)).trans HCA.out
        have cB := (HB5.out.cell (p := ⟨w.heap.size, 1, none⟩) (Nat.lt_succ_self _)).trans HCB.out
        have HAG1 := Aside0.mk (PA.member_Agreed.calls (l.length + y0.length + 3) A0 c0 l A1 c1 y0 _ w5 (Kd.C_below HCl.out (HB0.out.trans (HB5.out.mono (Nat.le_succ _)))) HLl.out.1 (Kd.C_below HCy0.out (HB0.out.trans (HB5.out.mono (Nat.le_succ _)))) HLy0.out.1 (agreed_is l y0 (by have := HLs.out; omega) (by have := HLs.out; omega) _ (by omega)))
        cases ha : agreedB l y0 with
        | false =>
          rw [ha] at HAG1
          clear ha
          go_wp2_with fail
          refine HAG1.out.mono ?_
          rintro _ w6 ⟨rfl, hb⟩
          have hb6 := Drawn0.below hb
          have HB6 := Aside0.mk (HB5.out.trans ((hb6).mono (Nat.le_trans HSZ.out HB5.out.size)))
          have HBK := HB6
          clear hb hb6 HAG1 cA cB
          go_wp2_with fail
          go_ret
          exact ⟨rfl, HB0.out.trans (HBK.out.mono (Nat.le_succ _))⟩
        | true =>
          rw [ha] at HAG1
          have HA1 := Aside0.mk ha
          clear ha
          go_wp2_with fail
          refine HAG1.out.mono ?_
          rintro _ w7 ⟨rfl, hb⟩
          have hb7 := Drawn0.below hb
          have HB7 := Aside0.mk (HB5.out.trans ((hb7).mono (Nat.le_trans HSZ.out HB5.out.size)))
          have HCm7 := Aside0.mk (Kd.C_below HCm5.out hb7)
          clear hb hb7 HAG1 HCm5 cA cB
          have cA := (HB7.out.cell (p := ⟨w.heap.size, 0, none⟩) (Nat.lt_succ_self _)).trans HCA.out
          have cB := (HB7.out.cell (p := ⟨w.heap.size, 1, none⟩) (Nat.lt_succ_self _)).trans HCB.out
          have HAG2 := Aside0.mk (PA.member_Agreed.calls ((l).length + y1.length + 3) A0 c0 (l) A2 c2 y1 _ w7 HCm7.out HLm.out.1 (Kd.C_below HCy1.out (HB0.out.trans (HB7.out.mono (Nat.le_succ _)))) HLy1.out.1 (agreed_is (l) y1 (by have := HLm7.out; omega) (by have := HLs.out; omega) _ (by omega)))
          cases ha : agreedB (l) y1 with
          | false =>
            rw [ha] at HAG2
            clear ha
            go_wp2_with fail
            refine HAG2.out.mono ?_
            rintro _ w6 ⟨rfl, hb⟩
            have hb6 := Drawn0.below hb
            have HB6 := Aside0.mk (HB7.out.trans ((hb6).mono (Nat.le_trans HSZ.out HB7.out.size)))
            have HBK := HB6
            clear hb hb6 HAG2 cA cB
            go_wp2_with fail
            go_ret
            exact ⟨rfl, HB0.out.trans (HBK.out.mono (Nat.le_succ _))⟩
          | true =>
            rw [ha] at HAG2
            have HEX := Aside0.mk (HPL.out.2.2 HA1.out ha)
            clear ha
            go_wp2_with fail
            refine HAG2.out.mono ?_
            rintro _ w6 ⟨rfl, hb⟩
            have hb6 := Drawn0.below hb
            have HB6 := Aside0.mk (HB7.out.trans ((hb6).mono (Nat.le_trans HSZ.out HB7.out.size)))
            have HCm := Aside0.mk (Kd.C_below HCm7.out hb6)
            clear hb hb6 HAG2 HCm7 cA cB
            have cA := (HB6.out.cell (p := ⟨w.heap.size, 0, none⟩) (Nat.lt_succ_self _)).trans HCA.out
            have cB := (HB6.out.cell (p := ⟨w.heap.size, 1, none⟩) (Nat.lt_succ_self _)).trans HCB.out
            go_wp2_with fail
            clear cA cB
            have V0 := Aside0.mk (Below.refl w6.heap.size w6)
            go_loopw [9, 67] (fun _ v67 wr => ∃ (i : Nat), v67 = .int .i64 (i : Int) ∧ Aside0 (i ≤ 7) ∧ Aside0 (∀ j : Nat, j < i → ¬ (l.contains (j : Int) = true ∧ (l).contains (j : Int) = true ∧ y0.contains (j : Int) = true ∧ y1.contains (j : Int) = true)) ∧ Aside0 (Below w6.heap.size w6 wr)) (fun _ v67 _ => 7 - (intOf v67).toNat)
            case atStart => exact ⟨0, rfl, Aside0.mk (Nat.zero_le _), Aside0.mk (fun j hj => absurd hj (Nat.not_lt_zero _)), V0⟩
            case round =>
              obtain ⟨i, rfl, HI, HJ, HBr⟩ := hrel
              have HB10 := Aside0.mk (HB6.out.trans (HBr.out.mono (Nat.le_trans HSZ.out HB6.out.size)))
              have HCm10 := Aside0.mk (Kd.C_below HCm.out HBr.out)
              by_cases hin : i < 7
              · have d1 : decide ((i : Int) < 7) = true := decide_eq_true (by omega)
                have HIN := Aside0.mk hin
                have hwi : wrap64 ((i : Int) + 1) = ((i + 1 : Nat) : Int) := by unfold wrap64; omega
                clear hin
                have HR10 := Aside0.mk (Below.refl wr.heap.size wr)
                have cA := (HB10.out.cell (p := ⟨w.heap.size, 0, none⟩) (Nat.lt_succ_self _)).trans HCA.out
                have cB := (HB10.out.cell (p := ⟨w.heap.size, 1, none⟩) (Nat.lt_succ_self _)).trans HCB.out
                have HCL := Aside0.mk (PM.member_Has.calls (l.length + 1) A0 c0 l (i : Int) _ wr (Kd.C_below HCl.out (HB0.out.trans (HB10.out.mono (Nat.le_succ _)))) HLl.out.1 (PL.has_is l (i : Int) HLl.out.2 _ (Nat.lt_succ_self _)))
                cases hq0 : l.contains (i : Int) with
                | false =>
                  rw [hq0] at HCL
                  have HQ0 := Aside0.mk hq0
                  clear hq0
                  go_wp2_with fail
                  refine HCL.out.mono ?_
                  rintro _ w11 ⟨rfl, hb⟩
                  have hb := Drawn0.below hb
                  have HR11 := Aside0.mk (HR10.out.trans (hb.mono HR10.out.size))
                  have HB11 := Aside0.mk (HB10.out.trans (hb.mono (Nat.le_trans HSZ.out HB10.out.size)))
                  clear hb HCL cA cB
                  have cA := (HB11.out.cell (p := ⟨w.heap.size, 0, none⟩) (Nat.lt_succ_self _)).trans HCA.out
                  have cB := (HB11.out.cell (p := ⟨w.heap.size, 1, none⟩) (Nat.lt_succ_self _)).trans HCB.out
                  have HBK := HB11
                  clear cA cB
                  go_wp2_with fail
                  go_roundw
                  case rel => exact ⟨i + 1, by rw [hwi], Aside0.mk (by have := HIN.out; omega), Aside0.mk (fun j hj => by
                    by_cases e : j = i
                    · subst e; intro h; have h1 := h.1; rw [HQ0.out] at h1; cases h1
                    · exact HJ.out j (by omega)), Aside0.mk (HBr.out.trans (HR11.out.mono HBr.out.size))⟩
                  case measure => have := HIN.out; rw [hwi]; simp [intOf]; omega
                | true =>
                  rw [hq0] at HCL
                  have HQ0 := Aside0.mk hq0
                  clear hq0
                  go_wp2_with fail
                  refine HCL.out.mono ?_
                  rintro _ w11 ⟨rfl, hb⟩
                  have hb := Drawn0.below hb
                  have HR11 := Aside0.mk (HR10.out.trans (hb.mono HR10.out.size))
                  have HB11 := Aside0.mk (HB10.out.trans (hb.mono (Nat.le_trans HSZ.out HB10.out.size)))
                  clear hb HCL cA cB
                  have HCmk := Aside0.mk (Kd.C_below HCm10.out HR11.out)
                  have cA := (HB11.out.cell (p := ⟨w.heap.size, 0, none⟩) (Nat.lt_succ_self _)).trans HCA.out
                  have cB := (HB11.out.cell (p := ⟨w.heap.size, 1, none⟩) (Nat.lt_succ_self _)).trans HCB.out
                  have HCL := Aside0.mk (PM.member_Has.calls ((l).length + 1) A0 c0 (l) (i : Int) _ w11 HCmk.out HLm.out.1 (PL.has_is (l) (i : Int) HLm.out.2 _ (Nat.lt_succ_self _)))
                  cases hq1 : (l).contains (i : Int) with
                  | false =>
                    rw [hq1] at HCL
                    have HQ1 := Aside0.mk hq1
                    clear hq1
                    go_wp2_with fail
                    refine HCL.out.mono ?_
                    rintro _ w12 ⟨rfl, hb⟩
                    have hb := Drawn0.below hb
                    have HR12 := Aside0.mk (HR11.out.trans (hb.mono HR11.out.size))
                    have HB12 := Aside0.mk (HB11.out.trans (hb.mono (Nat.le_trans HSZ.out HB11.out.size)))
                    clear hb HCL cA cB
                    have cA := (HB12.out.cell (p := ⟨w.heap.size, 0, none⟩) (Nat.lt_succ_self _)).trans HCA.out
                    have cB := (HB12.out.cell (p := ⟨w.heap.size, 1, none⟩) (Nat.lt_succ_self _)).trans HCB.out
                    have HBK := HB12
                    clear cA cB
                    go_wp2_with fail
                    go_roundw
                    case rel => exact ⟨i + 1, by rw [hwi], Aside0.mk (by have := HIN.out; omega), Aside0.mk (fun j hj => by
                      by_cases e : j = i
                      · subst e; intro h; have h1 := h.2.1; rw [HQ1.out] at h1; cases h1
                      · exact HJ.out j (by omega)), Aside0.mk (HBr.out.trans (HR12.out.mono HBr.out.size))⟩
                    case measure => have := HIN.out; rw [hwi]; simp [intOf]; omega
                  | true =>
                    rw [hq1] at HCL
                    have HQ1 := Aside0.mk hq1
                    clear hq1
                    go_wp2_with fail
                    refine HCL.out.mono ?_
                    rintro _ w12 ⟨rfl, hb⟩
                    have hb := Drawn0.below hb
                    have HR12 := Aside0.mk (HR11.out.trans (hb.mono HR11.out.size))
                    have HB12 := Aside0.mk (HB11.out.trans (hb.mono (Nat.le_trans HSZ.out HB11.out.size)))
                    clear hb HCL cA cB
                    have cA := (HB12.out.cell (p := ⟨w.heap.size, 0, none⟩) (Nat.lt_succ_self _)).trans HCA.out
                    have cB := (HB12.out.cell (p := ⟨w.heap.size, 1, none⟩) (Nat.lt_succ_self _)).trans HCB.out
                    have HCL := Aside0.mk (PM.member_Has.calls (y0.length + 1) A1 c1 y0 (i : Int) _ w12 (Kd.C_below HCy0.out (HB0.out.trans (HB12.out.mono (Nat.le_succ _)))) HLy0.out.1 (PL.has_is y0 (i : Int) HLy0.out.2 _ (Nat.lt_succ_self _)))
                    cases hq2 : y0.contains (i : Int) with
                    | false =>
                      rw [hq2] at HCL
                      have HQ2 := Aside0.mk hq2
                      clear hq2
                      go_wp2_with fail
                      refine HCL.out.mono ?_
                      rintro _ w13 ⟨rfl, hb⟩
                      have hb := Drawn0.below hb
                      have HR13 := Aside0.mk (HR12.out.trans (hb.mono HR12.out.size))
                      have HB13 := Aside0.mk (HB12.out.trans (hb.mono (Nat.le_trans HSZ.out HB12.out.size)))
                      clear hb HCL cA cB
                      have cA := (HB13.out.cell (p := ⟨w.heap.size, 0, none⟩) (Nat.lt_succ_self _)).trans HCA.out
                      have cB := (HB13.out.cell (p := ⟨w.heap.size, 1, none⟩) (Nat.lt_succ_self _)).trans HCB.out
                      have HBK := HB13
                      clear cA cB
                      go_wp2_with fail
                      go_roundw
                      case rel => exact ⟨i + 1, by rw [hwi], Aside0.mk (by have := HIN.out; omega), Aside0.mk (fun j hj => by
                        by_cases e : j = i
                        · subst e; intro h; have h1 := h.2.2.1; rw [HQ2.out] at h1; cases h1
                        · exact HJ.out j (by omega)), Aside0.mk (HBr.out.trans (HR13.out.mono HBr.out.size))⟩
                      case measure => have := HIN.out; rw [hwi]; simp [intOf]; omega
                    | true =>
                      rw [hq2] at HCL
                      have HQ2 := Aside0.mk hq2
                      clear hq2
                      go_wp2_with fail
                      refine HCL.out.mono ?_
                      rintro _ w13 ⟨rfl, hb⟩
                      have hb := Drawn0.below hb
                      have HR13 := Aside0.mk (HR12.out.trans (hb.mono HR12.out.size))
                      have HB13 := Aside0.mk (HB12.out.trans (hb.mono (Nat.le_trans HSZ.out HB12.out.size)))
                      clear hb HCL cA cB
                      have cA := (HB13.out.cell (p := ⟨w.heap.size, 0, none⟩) (Nat.lt_succ_self _)).trans HCA.out
                      have cB := (HB13.out.cell (p := ⟨w.heap.size, 1, none⟩) (Nat.lt_succ_self _)).trans HCB.out
                      have HCL := Aside0.mk (PM.member_Has.calls (y1.length + 1) A2 c2 y1 (i : Int) _ w13 (Kd.C_below HCy1.out (HB0.out.trans (HB13.out.mono (Nat.le_succ _)))) HLy1.out.1 (PL.has_is y1 (i : Int) HLy1.out.2 _ (Nat.lt_succ_self _)))
                      cases hq3 : y1.contains (i : Int) with
                      | false =>
                        rw [hq3] at HCL
                        have HQ3 := Aside0.mk hq3
                        clear hq3
                        go_wp2_with fail
                        refine HCL.out.mono ?_
                        rintro _ w14 ⟨rfl, hb⟩
                        have hb := Drawn0.below hb
                        have HR14 := Aside0.mk (HR13.out.trans (hb.mono HR13.out.size))
                        have HB14 := Aside0.mk (HB13.out.trans (hb.mono (Nat.le_trans HSZ.out HB13.out.size)))
                        clear hb HCL cA cB
                        have cA := (HB14.out.cell (p := ⟨w.heap.size, 0, none⟩) (Nat.lt_succ_self _)).trans HCA.out
                        have cB := (HB14.out.cell (p := ⟨w.heap.size, 1, none⟩) (Nat.lt_succ_self _)).trans HCB.out
                        have HBK := HB14
                        clear cA cB
                        go_wp2_with fail
                        go_roundw
                        case rel => exact ⟨i + 1, by rw [hwi], Aside0.mk (by have := HIN.out; omega), Aside0.mk (fun j hj => by
                          by_cases e : j = i
                          · subst e; intro h; have h1 := h.2.2.2; rw [HQ3.out] at h1; cases h1
                          · exact HJ.out j (by omega)), Aside0.mk (HBr.out.trans (HR14.out.mono HBr.out.size))⟩
                        case measure => have := HIN.out; rw [hwi]; simp [intOf]; omega
                      | true =>
                        rw [hq3] at HCL
                        have HQ3 := Aside0.mk hq3
                        clear hq3
                        go_wp2_with fail
                        refine HCL.out.mono ?_
                        rintro _ w14 ⟨rfl, hb⟩
                        have hb := Drawn0.below hb
                        have HR14 := Aside0.mk (HR13.out.trans (hb.mono HR13.out.size))
                        have HB14 := Aside0.mk (HB13.out.trans (hb.mono (Nat.le_trans HSZ.out HB13.out.size)))
                        clear hb HCL cA cB
                        have HBK := HB14
                        have cA := (HB14.out.cell (p := ⟨w.heap.size, 0, none⟩) (Nat.lt_succ_self _)).trans HCA.out
                        have cB := (HB14.out.cell (p := ⟨w.heap.size, 1, none⟩) (Nat.lt_succ_self _)).trans HCB.out
                        clear cA cB
                        go_wp2_with fail
                        go_ret
                        exact ⟨rfl, HB0.out.trans (HBK.out.mono (Nat.le_succ _))⟩
              · exfalso
                obtain ⟨j, hj, h1⟩ := HEX.out
                exact HJ.out j (by omega) h1


end Go.Proofs.Ytknaffajmfimbaa.PMe
