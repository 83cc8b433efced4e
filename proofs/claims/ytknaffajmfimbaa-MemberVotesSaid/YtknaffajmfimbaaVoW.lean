/- The walk of MemberVotes. -/
import Derived.Test.YtknaffajmfimbaaVoL
namespace Go.Proofs.Ytknaffajmfimbaa.PHe
open Go.RowKit Go.Proofs.YtknaffajmfimbaaW.PrintWords Go.Proofs.YtknaffajmfimbaaW.PrintLast Go.Proofs.YtknaffajmfimbaaW.PrintMore
open Go.Proofs Go.Proofs.Ytknaffajmfimbaa
set_option linter.unusedVariables false
set_option linter.unusedSimpArgs false
set_option maxHeartbeats 4000000
set_option maxRecDepth 100000

set_option maxHeartbeats 16000000 in
theorem votes_calls (w : World) (A0 A1 : Option Addr) (c0 c1 : Nat) (l y : List Int) (a0 a1 a2 a3 a4 a5 a6 : Int) (hCl : Kd.C (Kd.int .i64) w A0 l.length l) (hCy : Kd.C (Kd.int .i64) w A1 y.length y) (h0 : l.length ≤ c0) (h1 : y.length ≤ c1)
    (z0 : l.length ≤ 17592186044416) (z1 : y.length ≤ 17592186044416) :
    Calls Try.prog 6 #[.slice A0 l.length c0, .slice A1 y.length c1, .agg #[.int .i64 a0, .int .i64 a1, .int .i64 a2, .int .i64 a3, .int .i64 a4, .int .i64 a5, .int .i64 a6]] w fun e w' => e = .returned (.bool true) ∧ Below w.heap.size w w' := by
  obtain ⟨wa, hwa⟩ : ∃ wa, wa = w.alloc (.cells #[.int .i64 a0, .int .i64 a1, .int .i64 a2, .int .i64 a3, .int .i64 a4, .int .i64 a5, .int .i64 a6] 34) := ⟨_, rfl⟩
  have HBa := Aside0.mk (show Below w.heap.size w wa by rw [hwa]; exact below_alloc (Below.refl w.heap.size w) _)
  have hsz : wa.heap.size = w.heap.size + 1 := by rw [hwa]; simp
  have HSZ := Aside0.mk hsz
  have HG := Aside0.mk (show wa.heap[w.heap.size]? = some (.cells #[.int .i64 a0, .int .i64 a1, .int .i64 a2, .int .i64 a3, .int .i64 a4, .int .i64 a5, .int .i64 a6] 34 (0, 0)) by rw [hwa]; exact heap_alloc_new w _)
  have HCl := Aside0.mk hCl
  have HCy := Aside0.mk hCy
  have HLl := Aside0.mk (And.intro h0 (show l.length ≤ 9223372036854775806 by omega))
  have HLy := Aside0.mk (And.intro h1 (show y.length ≤ 9223372036854775806 by omega))
  have HZ := Aside0.mk (And.intro z0 z1)
  have HF := Aside0.mk (PM.calepinlaw21_first.calls 60 true wa (PL.first_is 60 (by decide)))
  clear hCl hCy h0 h1 z0 z1 hsz
  go_enter Try.func6, Try.ntmps6
  go_upto_region 1 with fail
  rw [← hwa]
  clear hwa
  go_wp2_with fail
  refine HF.out.mono ?_
  rintro _ w1 ⟨rfl, hb⟩
  have HB1 := Aside0.mk (show Below wa.heap.size wa w1 from hb)
  clear hb HF
  by_cases hs : wrap64 ((l.length : Int) + (y.length : Int)) > 100
  · have d1 : decide (wrap64 ((l.length : Int) + (y.length : Int)) > 100) = true := decide_eq_true hs
    clear hs
    go_wp2_with fail
    go_ret
    exact ⟨rfl, HBa.out.trans (HB1.out.mono HBa.out.size)⟩
  have d1 : decide (wrap64 ((l.length : Int) + (y.length : Int)) > 100) = false := decide_eq_false hs
  have HLs := Aside0.mk (show l.length + y.length ≤ 100 by have := HZ.out; unfold wrap64 at hs; omega)
  clear hs
  have HR1 := Aside0.mk (show Kd.R (Kd.int .i64) 3 w1 wa.heap.size (fun _ => True) (.slice none 0 0) [] from Kd.R_of_own (h1 := fun _ => rfl) (World.ownsRow_nil _ _ _ _) (fun _ _ => trivial))
  go_wp2_with fail
  go_loopw [7, 8, 9, 23] (fun v7 v8 v9 v23 wr => ∃ (k nc : Nat) (bi : Bool) (v : Value) (P : List Int), v23 = .int .i64 (k : Int) ∧ v7 = .int .i64 (nc : Int) ∧ v8 = .bool bi ∧ v9 = v ∧ Aside0 (nc = ((l.take k).filter (fun x => y.contains x)).length ∧ bi = (l.take k).all inR) ∧ Aside0 (k ≤ l.length) ∧ Aside0 ((bi = true → P = (l.take k).map (fun x => at_ (atL a0 a1 a2 a3 a4 a5 a6) x.toNat)) ∧ P.length ≤ k) ∧ Aside0 (Kd.R (Kd.int .i64) 3 wr wa.heap.size (fun _ => True) v P) ∧ Aside0 (Below wa.heap.size wa wr)) (fun _ _ _ v23 _ => l.length - (intOf v23).toNat)
  case atStart => exact ⟨0, 0, true, _, [], rfl, rfl, rfl, rfl, Aside0.mk ⟨rfl, rfl⟩, Aside0.mk (Nat.zero_le _), Aside0.mk ⟨fun _ => rfl, Nat.le_refl _⟩, HR1, HB1⟩
  case round =>
    clear HR1 HB1
    obtain ⟨k, nc, bi, v, P, rfl, rfl, rfl, rfl, HNB, HK, HP, HR, HB⟩ := hrel
    by_cases k1 : k < l.length
    · have d2 : decide (k < l.length) = true := decide_eq_true k1
      obtain ⟨ad, had, hcell⟩ := Kd.at_int (Kd.C_below HCl.out (HBa.out.trans (HB.out.mono HBa.out.size))) (k : Int) (by omega) (by omega)
      cases had
      rw [Int.toNat_natCast] at hcell
      obtain ⟨x, hx⟩ : ∃ x, x = rd l (k : Int) := ⟨_, rfl⟩
      rw [← hx] at hcell
      have HX := Aside0.mk (show l.take (k + 1) = l.take k ++ [x] by
        rw [List.take_succ_eq_append_getElem k1, hx, rd_at]
        unfold at_
        rw [List.getElem?_eq_getElem k1]; rfl)
      have HK1 := Aside0.mk (show k + 1 ≤ l.length from k1)
      have HLk := Aside0.mk (show k ≤ 100 by have := HLs.out; omega)
      have hw : wrap64 ((k : Int) + 1) = ((k + 1 : Nat) : Int) := by have := HLs.out; unfold wrap64; omega
      clear hx
      replace k1 := eq_true k1
      have HHC := Aside0.mk (PM.calepinref21_Has.calls (y.length + 1) A1 c1 y x (y.contains x) wr (Kd.C_below HCy.out (HBa.out.trans (HB.out.mono HBa.out.size))) HLy.out.1 (PL.refHas_is y x HLy.out.2 _ (Nat.lt_succ_self _)))
      cases hh : y.contains x with
      | false =>
        rw [hh] at HHC
        have HCN := Aside0.mk (show nc = ((l.take (k + 1)).filter (fun x => y.contains x)).length by
          rw [HX.out, List.filter_append, List.length_append, HNB.out.1, List.filter_cons, hh]; rfl)
        skip
        clear hh
        go_wp2_with fail
        refine HHC.out.mono ?_
        rintro _ w2 ⟨rfl, hd⟩
        have hb := Drawn0.below hd
        have HBD := Aside0.mk hb
        have HR2 := Aside0.mk (Kd.R_below HR.out hb)
        have HB2 := Aside0.mk (HB.out.trans (hb.mono HB.out.size))
        clear hd hb HHC
        go_upto_region 13 with fail
        have HIN := Aside0.mk HNB.out.2
        cases bi with
        | false =>
          have HALL := Aside0.mk (show (l.take (k + 1)).all inR = false by rw [HX.out, List.all_append, ← HIN.out, Bool.false_and])
          go_wp2_with fail
          go_roundw
          case rel => exact ⟨k + 1, nc, false, _, P, by rw [hw], rfl, rfl, rfl, Aside0.mk ⟨HCN.out, HALL.out.symm⟩, Aside0.mk HK1.out, Aside0.mk ⟨fun h => absurd h (by decide), by have := HP.out.2; omega⟩, HR2, HB2⟩
          case measure => rw [hw]; have := HK1.out; simp [intOf]; omega
        | true =>
          cases q0 : decide (0 ≤ x) with
          | false =>
            have HALL := Aside0.mk (show (l.take (k + 1)).all inR = false by rw [HX.out, List.all_append]; simp [inR, q0])
            go_wp2_with fail
            go_roundw
            case rel => exact ⟨k + 1, nc, false, _, P, by rw [hw], rfl, rfl, rfl, Aside0.mk ⟨HCN.out, HALL.out.symm⟩, Aside0.mk HK1.out, Aside0.mk ⟨fun h => absurd h (by decide), by have := HP.out.2; omega⟩, HR2, HB2⟩
            case measure => rw [hw]; have := HK1.out; simp [intOf]; omega
          | true =>
            cases q7 : decide (x < 7) with
            | false =>
              have HALL := Aside0.mk (show (l.take (k + 1)).all inR = false by rw [HX.out, List.all_append]; simp [inR, q7])
              go_wp2_with fail
              go_roundw
              case rel => exact ⟨k + 1, nc, false, _, P, by rw [hw], rfl, rfl, rfl, Aside0.mk ⟨HCN.out, HALL.out.symm⟩, Aside0.mk HK1.out, Aside0.mk ⟨fun h => absurd h (by decide), by have := HP.out.2; omega⟩, HR2, HB2⟩
              case measure => rw [hw]; have := HK1.out; simp [intOf]; omega
            | true =>
              have HALL := Aside0.mk (show (l.take (k + 1)).all inR = true by rw [HX.out, List.all_append, ← HIN.out]; simp [inR, q0, q7])
              have hatc := at_cell ((HB.out.block w.heap.size (by have := HSZ.out; omega)).trans HG.out) x (by have := of_decide_eq_true q0; omega) (by have := of_decide_eq_true q7; omega)
              obtain ⟨yv, hy⟩ : ∃ yv, yv = at_ (atL a0 a1 a2 a3 a4 a5 a6) x.toNat := ⟨_, rfl⟩
              rw [← hy] at hatc
              have hp0 : (0 ≤ x) = True := eq_true (of_decide_eq_true q0)
              have hp7 : (x < 7) = True := eq_true (of_decide_eq_true q7)
              have HY := Aside0.mk hy
              have hatc2 := (HBD.out.cell (p := ⟨w.heap.size, x.toNat, none⟩) (by have := HB.out.size; have := HSZ.out; show w.heap.size < wr.heap.size; omega)).trans hatc
              clear hy hatc
              go_wp2_with (first
                | (at_builtin
                   have HO := Aside0.mk (Kd.own_of_R HR2.out)
                   refine print_append_of (w0 := wa) (Value.int .i64) wa.heap.size rfl (.tmp 42) (.tmp 46) 22 3 (.int .i64 0) 8 rfl Try.underlying22 info3 rfl (by decide) _ P yv rfl rfl rfl HO.out HB2.out HB2.out.size (by have := HP.out.2; have := HLk.out; omega) ?_
                   intro v3 w3 hO3 hB3 hg3 hat3
                   have HR3 := Aside0.mk (Kd.R_of_own (h1 := fun _ => rfl) (ok := fun _ => True) hO3 (fun _ _ => trivial))
                   have HB3 := Aside0.mk hB3
                   clear hO3 hB3 hg3 hat3)
                | fail)
              go_roundw
              case rel => exact ⟨k + 1, nc, true, v3, P ++ [yv], by rw [hw], rfl, rfl, rfl, Aside0.mk ⟨HCN.out, HALL.out.symm⟩, Aside0.mk HK1.out, Aside0.mk ⟨fun h => by rw [HX.out, List.map_append, HP.out.1 rfl, HY.out]; rfl, by rw [List.length_append]; have := HP.out.2; simp; omega⟩, HR3, HB3⟩
              case measure => rw [hw]; have := HK1.out; simp [intOf]; omega
      | true =>
        rw [hh] at HHC
        have HCN := Aside0.mk (show nc + 1 = ((l.take (k + 1)).filter (fun x => y.contains x)).length by
          rw [HX.out, List.filter_append, List.length_append, HNB.out.1, List.filter_cons, hh]; rfl)
        have hwn : wrap64 ((nc : Int) + 1) = ((nc + 1 : Nat) : Int) := by have := List.length_filter_le (fun x => y.contains x) (l.take k); rw [List.length_take] at this; have := HNB.out.1; have := HLk.out; unfold wrap64; omega
        clear hh
        go_wp2_with fail
        refine HHC.out.mono ?_
        rintro _ w2 ⟨rfl, hd⟩
        have hb := Drawn0.below hd
        have HBD := Aside0.mk hb
        have HR2 := Aside0.mk (Kd.R_below HR.out hb)
        have HB2 := Aside0.mk (HB.out.trans (hb.mono HB.out.size))
        clear hd hb HHC
        go_upto_region 13 with fail
        have HIN := Aside0.mk HNB.out.2
        cases bi with
        | false =>
          have HALL := Aside0.mk (show (l.take (k + 1)).all inR = false by rw [HX.out, List.all_append, ← HIN.out, Bool.false_and])
          go_wp2_with fail
          go_roundw
          case rel => exact ⟨k + 1, nc + 1, false, _, P, by rw [hw], (by first | rfl | (rw [hwn]; done) | (simp; done)), rfl, rfl, Aside0.mk ⟨HCN.out, HALL.out.symm⟩, Aside0.mk HK1.out, Aside0.mk ⟨fun h => absurd h (by decide), by have := HP.out.2; omega⟩, HR2, HB2⟩
          case measure => rw [hw]; have := HK1.out; simp [intOf]; omega
        | true =>
          cases q0 : decide (0 ≤ x) with
          | false =>
            have HALL := Aside0.mk (show (l.take (k + 1)).all inR = false by rw [HX.out, List.all_append]; simp [inR, q0])
            go_wp2_with fail
            go_roundw
            case rel => exact ⟨k + 1, nc + 1, false, _, P, by rw [hw], (by first | rfl | (rw [hwn]; done) | (simp; done)), rfl, rfl, Aside0.mk ⟨HCN.out, HALL.out.symm⟩, Aside0.mk HK1.out, Aside0.mk ⟨fun h => absurd h (by decide), by have := HP.out.2; omega⟩, HR2, HB2⟩
            case measure => rw [hw]; have := HK1.out; simp [intOf]; omega
          | true =>
            cases q7 : decide (x < 7) with
            | false =>
              have HALL := Aside0.mk (show (l.take (k + 1)).all inR = false by rw [HX.out, List.all_append]; simp [inR, q7])
              go_wp2_with fail
              go_roundw
              case rel => exact ⟨k + 1, nc + 1, false, _, P, by rw [hw], (by first | rfl | (rw [hwn]; done) | (simp; done)), rfl, rfl, Aside0.mk ⟨HCN.out, HALL.out.symm⟩, Aside0.mk HK1.out, Aside0.mk ⟨fun h => absurd h (by decide), by have := HP.out.2; omega⟩, HR2, HB2⟩
              case measure => rw [hw]; have := HK1.out; simp [intOf]; omega
            | true =>
              have HALL := Aside0.mk (show (l.take (k + 1)).all inR = true by rw [HX.out, List.all_append, ← HIN.out]; simp [inR, q0, q7])
              have hatc := at_cell ((HB.out.block w.heap.size (by have := HSZ.out; omega)).trans HG.out) x (by have := of_decide_eq_true q0; omega) (by have := of_decide_eq_true q7; omega)
              obtain ⟨yv, hy⟩ : ∃ yv, yv = at_ (atL a0 a1 a2 a3 a4 a5 a6) x.toNat := ⟨_, rfl⟩
              rw [← hy] at hatc
              have hp0 : (0 ≤ x) = True := eq_true (of_decide_eq_true q0)
              have hp7 : (x < 7) = True := eq_true (of_decide_eq_true q7)
              have HY := Aside0.mk hy
              have hatc2 := (HBD.out.cell (p := ⟨w.heap.size, x.toNat, none⟩) (by have := HB.out.size; have := HSZ.out; show w.heap.size < wr.heap.size; omega)).trans hatc
              clear hy hatc
              go_wp2_with (first
                | (at_builtin
                   have HO := Aside0.mk (Kd.own_of_R HR2.out)
                   refine print_append_of (w0 := wa) (Value.int .i64) wa.heap.size rfl (.tmp 42) (.tmp 46) 22 3 (.int .i64 0) 8 rfl Try.underlying22 info3 rfl (by decide) _ P yv rfl rfl rfl HO.out HB2.out HB2.out.size (by have := HP.out.2; have := HLk.out; omega) ?_
                   intro v3 w3 hO3 hB3 hg3 hat3
                   have HR3 := Aside0.mk (Kd.R_of_own (h1 := fun _ => rfl) (ok := fun _ => True) hO3 (fun _ _ => trivial))
                   have HB3 := Aside0.mk hB3
                   clear hO3 hB3 hg3 hat3)
                | fail)
              go_roundw
              case rel => exact ⟨k + 1, nc + 1, true, v3, P ++ [yv], by rw [hw], (by first | rfl | (rw [hwn]; done) | (simp; done)), rfl, rfl, Aside0.mk ⟨HCN.out, HALL.out.symm⟩, Aside0.mk HK1.out, Aside0.mk ⟨fun h => by rw [HX.out, List.map_append, HP.out.1 rfl, HY.out]; rfl, by rw [List.length_append]; have := HP.out.2; simp; omega⟩, HR3, HB3⟩
              case measure => rw [hw]; have := HK1.out; simp [intOf]; omega
    · have d2 : decide (k < l.length) = false := decide_eq_false k1
      have hk : k = l.length := by have := HK.out; omega
      subst hk
      rw [List.take_length] at HP HNB
      clear HK k1
      have hPR := refPlace_is P (by have := HP.out.2; have := HLs.out; omega) (P.length * (P.length + 2) + 2) (by omega)
      obtain ⟨Ap, cp, rfl⟩ := Kd.R_slice HR.out
      have HRC := Aside0.mk (PG.calepinref21_Place.calls (P.length * (P.length + 2) + 2) Ap cp P (placeR P) wr (Kd.R_reads' HR.out).2.2 (Kd.R_reads' HR.out).2.1 hPR)
      have HBI := Aside0.mk HNB.out.2
      have HAN := Aside0.mk (show 2 * nc ≤ 2 * l.length by rw [HNB.out.1]; have := List.length_filter_le (fun x => y.contains x) l; omega)
      have HAT := Aside0.mk (agreed_two l y)
      have w2c : wrap64 (2 * (nc : Int)) = ((2 * nc : Nat) : Int) := by have := HAN.out; have := HLs.out; unfold wrap64; omega
      clear hPR
      cases bi with
      | false =>
        have HE := Aside0.mk (show placeV l (atL a0 a1 a2 a3 a4 a5 a6) = 0 by rw [placeV_is, ← HBI.out]; rfl)
        have HAC := Aside0.mk (PA.member_Agreed.calls (l.length + y.length + 3) A0 c0 l A1 c1 y _ wr (Kd.C_below HCl.out (HBa.out.trans (HB.out.mono HBa.out.size))) HLl.out.1 (Kd.C_below HCy.out (HBa.out.trans (HB.out.mono HBa.out.size))) HLy.out.1 (PMe.agreed_is l y (by have := HLs.out; omega) (by have := HLs.out; omega) _ (by omega)))
        rw [HAT.out, ← HNB.out.1] at HAC
        cases hbq : decide (2 * nc > l.length) with
        | false =>
          rw [hbq] at HAC
          have hgi : decide ((l.length : Int) < 2 * (nc : Int)) = false := by first | exact decide_eq_true (by have := of_decide_eq_true hbq; omega) | exact decide_eq_false (by have := of_decide_eq_false hbq; omega)
          clear hbq
          go_wp2_with fail
          refine HAC.out.mono ?_
          rintro _ w4 ⟨rfl, hd⟩
          have hb := Drawn0.below hd
          have HB4 := Aside0.mk (HB.out.trans (hb.mono HB.out.size))
          clear hd hb HAC
          have hpc := place_calls w4 A0 c0 l a0 a1 a2 a3 a4 a5 a6 (Kd.C_below HCl.out (HBa.out.trans (HB4.out.mono HBa.out.size))) HLl.out.1 (by have := HLs.out; omega)
          rw [HE.out] at hpc
          have HPC := Aside0.mk hpc
          clear hpc
          have hgc := (HB4.out.block w.heap.size (by have := HSZ.out; omega)).trans HG.out
          have e0 : w4.cell? ⟨w.heap.size, 0, none⟩ = some (.int .i64 a0) := (blk_cell hgc 0).trans rfl
          have e1 : w4.cell? ⟨w.heap.size, 1, none⟩ = some (.int .i64 a1) := (blk_cell hgc 1).trans rfl
          have e2 : w4.cell? ⟨w.heap.size, 2, none⟩ = some (.int .i64 a2) := (blk_cell hgc 2).trans rfl
          have e3 : w4.cell? ⟨w.heap.size, 3, none⟩ = some (.int .i64 a3) := (blk_cell hgc 3).trans rfl
          have e4 : w4.cell? ⟨w.heap.size, 4, none⟩ = some (.int .i64 a4) := (blk_cell hgc 4).trans rfl
          have e5 : w4.cell? ⟨w.heap.size, 5, none⟩ = some (.int .i64 a5) := (blk_cell hgc 5).trans rfl
          have e6 : w4.cell? ⟨w.heap.size, 6, none⟩ = some (.int .i64 a6) := (blk_cell hgc 6).trans rfl
          clear hgc
          go_wp2_with fail
          refine HPC.out.mono ?_
          rintro _ w5 ⟨rfl, hb5⟩
          have HB5 := Aside0.mk (HB4.out.trans (hb5.mono HB4.out.size))
          clear hb5 HPC
          go_wp2_with fail
          go_ret
          exact ⟨rfl, HBa.out.trans (HB5.out.mono HBa.out.size)⟩
        | true =>
          rw [hbq] at HAC
          have hgi : decide ((l.length : Int) < 2 * (nc : Int)) = true := by first | exact decide_eq_true (by have := of_decide_eq_true hbq; omega) | exact decide_eq_false (by have := of_decide_eq_false hbq; omega)
          clear hbq
          go_wp2_with fail
          refine HAC.out.mono ?_
          rintro _ w4 ⟨rfl, hd⟩
          have hb := Drawn0.below hd
          have HB4 := Aside0.mk (HB.out.trans (hb.mono HB.out.size))
          clear hd hb HAC
          have hpc := place_calls w4 A0 c0 l a0 a1 a2 a3 a4 a5 a6 (Kd.C_below HCl.out (HBa.out.trans (HB4.out.mono HBa.out.size))) HLl.out.1 (by have := HLs.out; omega)
          rw [HE.out] at hpc
          have HPC := Aside0.mk hpc
          clear hpc
          have hgc := (HB4.out.block w.heap.size (by have := HSZ.out; omega)).trans HG.out
          have e0 : w4.cell? ⟨w.heap.size, 0, none⟩ = some (.int .i64 a0) := (blk_cell hgc 0).trans rfl
          have e1 : w4.cell? ⟨w.heap.size, 1, none⟩ = some (.int .i64 a1) := (blk_cell hgc 1).trans rfl
          have e2 : w4.cell? ⟨w.heap.size, 2, none⟩ = some (.int .i64 a2) := (blk_cell hgc 2).trans rfl
          have e3 : w4.cell? ⟨w.heap.size, 3, none⟩ = some (.int .i64 a3) := (blk_cell hgc 3).trans rfl
          have e4 : w4.cell? ⟨w.heap.size, 4, none⟩ = some (.int .i64 a4) := (blk_cell hgc 4).trans rfl
          have e5 : w4.cell? ⟨w.heap.size, 5, none⟩ = some (.int .i64 a5) := (blk_cell hgc 5).trans rfl
          have e6 : w4.cell? ⟨w.heap.size, 6, none⟩ = some (.int .i64 a6) := (blk_cell hgc 6).trans rfl
          clear hgc
          go_wp2_with fail
          refine HPC.out.mono ?_
          rintro _ w5 ⟨rfl, hb5⟩
          have HB5 := Aside0.mk (HB4.out.trans (hb5.mono HB4.out.size))
          clear hb5 HPC
          go_wp2_with fail
          go_ret
          exact ⟨rfl, HBa.out.trans (HB5.out.mono HBa.out.size)⟩
      | true =>
        have HE := Aside0.mk (show placeV l (atL a0 a1 a2 a3 a4 a5 a6) = placeR P by rw [placeV_is, ← HBI.out, if_pos rfl, HP.out.1 rfl])
        go_wp2_with fail
        refine HRC.out.mono ?_
        rintro _ w2 ⟨rfl, hd⟩
        have hb := Drawn0.below hd
        have HB2 := Aside0.mk (HB.out.trans (hb.mono HB.out.size))
        clear hd hb HRC HR HB
        have HB := HB2
        clear HB2
        have HAC := Aside0.mk (PA.member_Agreed.calls (l.length + y.length + 3) A0 c0 l A1 c1 y _ w2 (Kd.C_below HCl.out (HBa.out.trans (HB.out.mono HBa.out.size))) HLl.out.1 (Kd.C_below HCy.out (HBa.out.trans (HB.out.mono HBa.out.size))) HLy.out.1 (PMe.agreed_is l y (by have := HLs.out; omega) (by have := HLs.out; omega) _ (by omega)))
        rw [HAT.out, ← HNB.out.1] at HAC
        cases hbq : decide (2 * nc > l.length) with
        | false =>
          rw [hbq] at HAC
          have hgi : decide ((l.length : Int) < 2 * (nc : Int)) = false := by first | exact decide_eq_true (by have := of_decide_eq_true hbq; omega) | exact decide_eq_false (by have := of_decide_eq_false hbq; omega)
          clear hbq
          go_wp2_with fail
          refine HAC.out.mono ?_
          rintro _ w4 ⟨rfl, hd⟩
          have hb := Drawn0.below hd
          have HB4 := Aside0.mk (HB.out.trans (hb.mono HB.out.size))
          clear hd hb HAC
          have hpc := place_calls w4 A0 c0 l a0 a1 a2 a3 a4 a5 a6 (Kd.C_below HCl.out (HBa.out.trans (HB4.out.mono HBa.out.size))) HLl.out.1 (by have := HLs.out; omega)
          rw [HE.out] at hpc
          have HPC := Aside0.mk hpc
          clear hpc
          have hgc := (HB4.out.block w.heap.size (by have := HSZ.out; omega)).trans HG.out
          have e0 : w4.cell? ⟨w.heap.size, 0, none⟩ = some (.int .i64 a0) := (blk_cell hgc 0).trans rfl
          have e1 : w4.cell? ⟨w.heap.size, 1, none⟩ = some (.int .i64 a1) := (blk_cell hgc 1).trans rfl
          have e2 : w4.cell? ⟨w.heap.size, 2, none⟩ = some (.int .i64 a2) := (blk_cell hgc 2).trans rfl
          have e3 : w4.cell? ⟨w.heap.size, 3, none⟩ = some (.int .i64 a3) := (blk_cell hgc 3).trans rfl
          have e4 : w4.cell? ⟨w.heap.size, 4, none⟩ = some (.int .i64 a4) := (blk_cell hgc 4).trans rfl
          have e5 : w4.cell? ⟨w.heap.size, 5, none⟩ = some (.int .i64 a5) := (blk_cell hgc 5).trans rfl
          have e6 : w4.cell? ⟨w.heap.size, 6, none⟩ = some (.int .i64 a6) := (blk_cell hgc 6).trans rfl
          clear hgc
          go_wp2_with fail
          refine HPC.out.mono ?_
          rintro _ w5 ⟨rfl, hb5⟩
          have HB5 := Aside0.mk (HB4.out.trans (hb5.mono HB4.out.size))
          clear hb5 HPC
          go_wp2_with fail
          go_ret
          exact ⟨rfl, HBa.out.trans (HB5.out.mono HBa.out.size)⟩
        | true =>
          rw [hbq] at HAC
          have hgi : decide ((l.length : Int) < 2 * (nc : Int)) = true := by first | exact decide_eq_true (by have := of_decide_eq_true hbq; omega) | exact decide_eq_false (by have := of_decide_eq_false hbq; omega)
          clear hbq
          go_wp2_with fail
          refine HAC.out.mono ?_
          rintro _ w4 ⟨rfl, hd⟩
          have hb := Drawn0.below hd
          have HB4 := Aside0.mk (HB.out.trans (hb.mono HB.out.size))
          clear hd hb HAC
          have hpc := place_calls w4 A0 c0 l a0 a1 a2 a3 a4 a5 a6 (Kd.C_below HCl.out (HBa.out.trans (HB4.out.mono HBa.out.size))) HLl.out.1 (by have := HLs.out; omega)
          rw [HE.out] at hpc
          have HPC := Aside0.mk hpc
          clear hpc
          have hgc := (HB4.out.block w.heap.size (by have := HSZ.out; omega)).trans HG.out
          have e0 : w4.cell? ⟨w.heap.size, 0, none⟩ = some (.int .i64 a0) := (blk_cell hgc 0).trans rfl
          have e1 : w4.cell? ⟨w.heap.size, 1, none⟩ = some (.int .i64 a1) := (blk_cell hgc 1).trans rfl
          have e2 : w4.cell? ⟨w.heap.size, 2, none⟩ = some (.int .i64 a2) := (blk_cell hgc 2).trans rfl
          have e3 : w4.cell? ⟨w.heap.size, 3, none⟩ = some (.int .i64 a3) := (blk_cell hgc 3).trans rfl
          have e4 : w4.cell? ⟨w.heap.size, 4, none⟩ = some (.int .i64 a4) := (blk_cell hgc 4).trans rfl
          have e5 : w4.cell? ⟨w.heap.size, 5, none⟩ = some (.int .i64 a5) := (blk_cell hgc 5).trans rfl
          have e6 : w4.cell? ⟨w.heap.size, 6, none⟩ = some (.int .i64 a6) := (blk_cell hgc 6).trans rfl
          clear hgc
          go_wp2_with fail
          refine HPC.out.mono ?_
          rintro _ w5 ⟨rfl, hb5⟩
          have HB5 := Aside0.mk (HB4.out.trans (hb5.mono HB4.out.size))
          clear hb5 HPC
          go_wp2_with fail
          go_ret
          exact ⟨rfl, HBa.out.trans (HB5.out.mono HBa.out.size)⟩

end Go.Proofs.Ytknaffajmfimbaa.PHe
