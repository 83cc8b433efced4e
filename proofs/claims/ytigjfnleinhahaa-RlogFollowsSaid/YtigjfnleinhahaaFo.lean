/- RlogFollows: the walk. -/
import Derived.Test.YtigjfnleinhahaaFoL
import Derived.Test.YtigjfnleinhahaaTw
import Derived.Test.YtigjfnleinhahaaPLogx0
namespace Go.Proofs.Ytigjfnleinhahaa.PLog
open Go.RowKit Go.Proofs.YtigjfnleinhahaaW.PrintWords Go.Proofs.YtigjfnleinhahaaW.PrintLast Go.Proofs.YtigjfnleinhahaaW.PrintMore
open Go.Proofs.Ytigjfnleinhahaa.Reg
set_option linter.unusedVariables false
set_option linter.unusedSimpArgs false
set_option maxHeartbeats 8000000
set_option maxRecDepth 100000
theorem follows_calls (A : Option Addr) (ca : Nat) (la : List Int) (B : Option Addr) (cb : Nat) (lb : List Int) (w : World) (hA : Kd.C (Kd.int .i64) w A la.length la) (hca : la.length ≤ ca) (hB : Kd.C (Kd.int .i64) w B lb.length lb) (hcb : lb.length ≤ cb) :
    Calls Try.prog 4 #[.slice A la.length ca, .slice B lb.length cb] w fun e w' => e = .returned (.bool true) ∧ Below w.heap.size w w' := by
  have HA := Aside0.mk hA
  have HB := Aside0.mk hB
  have HCA := Aside0.mk hca
  have HCB := Aside0.mk hcb
  clear hA hB hca hcb
  go_enter Try.func4, Try.ntmps4
  go_wp2_with fail
  refine (first_calls w).mono ?_
  rintro _ w1 ⟨rfl, hb⟩
  have B1 := Aside0.mk hb
  clear hb
  go_wp2_with fail
  refine (rising_calls w1 A ca la (Kd.C_below HA.out B1.out) HCA.out).mono ?_
  rintro _ w2 ⟨A2, c2, rfl, hC, hc2, hb⟩
  have HA2 := Aside0.mk hC
  have HC2 := Aside0.mk hc2
  have B2 := Aside0.mk (below_over B1.out hb)
  clear hC hb hc2
  go_wp2_with fail
  refine (rising_calls w2 B cb lb (Kd.C_below HB.out B2.out) HCB.out).mono ?_
  rintro _ w3 ⟨A3, c3, rfl, hC, hc3, hb⟩
  have HA3 := Aside0.mk (Kd.C_below HA2.out hb)
  have HB3 := Aside0.mk hC
  have B3 := Aside0.mk (below_over B2.out hb)
  have HC3 := Aside0.mk hc3
  clear hC hb B2 HA2 hc3
  have hla : (ris la).length ≤ 20 := by rw [ris_length]; omega
  have hlb : (ris lb).length ≤ 20 := by rw [ris_length]; omega
  generalize hrla : ris la = xs at *
  generalize hrlb : ris lb = zs at *
  have HLA := Aside0.mk hla
  have HLB := Aside0.mk hlb
  clear hrla hrlb hla hlb
  go_wp2_with fail
  -- the two logs
  refine (new_calls w3 0 0).mono ?_
  rintro _ w4 ⟨g, rfl, hg, hL, hb⟩
  have F4 := Aside0.mk (show Log w4 (fun k => w3.heap.size ≤ k ∧ k < w4.heap.size) g 0 0 [] from Log.bound hL)
  have Bl4 := Aside0.mk hb
  clear hg hL hb
  go_wp2_with fail
  refine (new_calls w4 0 0).mono ?_
  rintro _ w5 ⟨g2, rfl, hg, hL, hb⟩
  have G5 := Aside0.mk (show Log w5 (fun k => w4.heap.size ≤ k ∧ k < w5.heap.size) g2 0 0 [] from Log.bound hL)
  have F5 := Aside0.mk (F4.out.below hb)
  have Bl5 := Aside0.mk (below_over Bl4.out hb)
  have Z5 := Aside0.mk hb.size
  clear hg hL hb F4
  go_wp2_with fail
  -- the follower's entries
  refine (entries_calls w5 A2 c2 xs (Kd.C_below HA3.out Bl5.out) HC2.out (by have := HLA.out; omega)).mono ?_
  rintro _ w6 ⟨A6, c6, rfl, hC, hc6, hb⟩
  have F6 := Aside0.mk (F5.out.below hb)
  have G6 := Aside0.mk (G5.out.below hb)
  have Bl6 := Aside0.mk (below_over Bl5.out hb)
  have Z6 := Aside0.mk hb.size
  have HC6 := Aside0.mk hC
  have HD6 := Aside0.mk hc6
  clear hC hb hc6 F5 G5
  go_wp2_with fail
  refine (append_ens F6.out (by decide) A6 c6 xs HC6.out HD6.out (by have := HLA.out; simp; omega) (by simp)).mono ?_
  rintro _ w7 ⟨rfl, hl, hk, hb⟩
  have F7 := Aside0.mk (show Log w7 (fun k => ((w3.heap.size ≤ k ∧ k < w4.heap.size) ∨ w6.heap.size ≤ k) ∧ k < w7.heap.size) g 0 0 (xs.map en) from Log.bound hl)
  have G7 := Aside0.mk (G6.out.kept hk (fun k hk' h => by omega))
  have Bl7 := Aside0.mk (below_kept Bl6.out hk hb (fun k hk' => hk'.1))
  clear hl hk hb F6 G6 HC6 HD6
  go_wp2_with fail
  -- the leader's entries
  refine (entries_calls w7 A3 c3 zs (Kd.C_below HB3.out Bl7.out) HC3.out (by have := HLB.out; omega)).mono ?_
  rintro _ w8 ⟨A8, c8, rfl, hC, hc8, hb⟩
  have F8 := Aside0.mk (F7.out.below hb)
  have G8 := Aside0.mk (G7.out.below hb)
  have Bl8 := Aside0.mk (below_over Bl7.out hb)
  have Z8 := Aside0.mk hb.size
  have HC8 := Aside0.mk hC
  have HD8 := Aside0.mk hc8
  clear hC hb hc8 F7 G7
  go_wp2_with fail
  refine (append_ens G8.out (by decide) A8 c8 zs HC8.out HD8.out (by have := HLB.out; simp; omega) (by simp)).mono ?_
  rintro _ w9 ⟨rfl, hl, hk, hb⟩
  have G9 := Aside0.mk (show Log w9 (fun k => ((w4.heap.size ≤ k ∧ k < w5.heap.size) ∨ w8.heap.size ≤ k) ∧ k < w9.heap.size) g2 0 0 (zs.map en) from Log.bound hl)
  have F9 := Aside0.mk (F8.out.kept hk (fun k hk' h => by have := Z6.out; omega))
  have Bl9 := Aside0.mk (below_kept Bl8.out hk hb (fun k hk' => by have := Bl4.out.size; omega))
  have DIS := Aside0.mk (show ∀ k, (((w3.heap.size ≤ k ∧ k < w4.heap.size) ∨ w6.heap.size ≤ k) ∧ k < w7.heap.size) → ¬ (((w4.heap.size ≤ k ∧ k < w5.heap.size) ∨ w8.heap.size ≤ k) ∧ k < w9.heap.size) from fun k h1 h2 => by have := Z6.out; have := Z8.out; omega)
  clear hl hk hb F8 G8 HC8 HD8
  obtain ⟨ef, hef⟩ : ∃ ef, ef = xs.map en := ⟨_, rfl⟩
  obtain ⟨el, hel⟩ : ∃ el, el = zs.map en := ⟨_, rfl⟩
  obtain ⟨nf, hnf⟩ : ∃ nf, nf = xs.length := ⟨_, rfl⟩
  obtain ⟨nl, hnl⟩ : ∃ nl, nl = zs.length := ⟨_, rfl⟩
  rw [← hef] at F9
  rw [← hel] at G9
  have hoef : ∀ x ∈ ef, okE x := by rw [hef]; exact okE_ens _
  have hoel : ∀ x ∈ el, okE x := by rw [hel]; exact okE_ens _
  have NN := Aside0.mk (show ef.length = nf ∧ el.length = nl ∧ nf ≤ 20 ∧ nl ≤ 20 ∧ (∀ x ∈ ef, okE x) ∧ (∀ x ∈ el, okE x) from ⟨by rw [hef, List.length_map, hnf], by rw [hel, List.length_map, hnl], hnf ▸ HLA.out, hnl ▸ HLB.out, hoef, hoel⟩)
  have hlast := last_calls G9.out (by decide) (by have := NN.out; omega)
  rw [NN.out.2.1] at hlast
  have HLAST := Aside0.mk hlast
  clear hlast hoef hoel hef hel
  rw [← hnf, ← hnl]
  clear hnf hnl
  go_wp2_with fail
  refine HLAST.out.mono ?_
  clear HLAST
  rintro _ w10 ⟨rfl, m10, rfl⟩
  have hwn : wrap64 ((0 : Int) + (nl : Int) + 1) = (nl : Int) + 1 := by have := NN.out; unfold wrap64; omega
  have hwn0 : wrap64 ((nl : Int) + 1) = (nl : Int) + 1 := by have := NN.out; unfold wrap64; omega
  have hws : wrap64 ((nf : Int) + (nl : Int)) = (nf : Int) + (nl : Int) := by have := NN.out; unfold wrap64; omega
  obtain ⟨M, hM⟩ : ∃ M, M = nf + nl + 2 := ⟨_, rfl⟩
  have hws2 : wrap64 ((nf : Int) + (nl : Int) + 2) = (M : Int) := by have := NN.out; unfold wrap64; omega
  have HM := Aside0.mk hM
  clear hM
  go_wp2_with fail
  simp only [hwn0, hws2]
  clear hwn hwn0 hws hws2
  have HB0 := Aside0.mk (Below.refl (w9.drewN m10).heap.size (w9.drewN m10))
  have FX := Aside0.mk (F9.out.drewN m10)
  have GX := Aside0.mk (G9.out.drewN m10)
  have BX := Aside0.mk (below_over B3.out (pw_below_drewN Bl9.out m10))
  generalize hwx : w9.drewN m10 = wx at *
  clear hwx
  go_loopw [9, 46] (fun v9 v46 wr => ∃ (x : Int) (r p : Nat), v9 = .int .i64 x ∧ v46 = .int .i64 (r : Int) ∧ Aside0 (x = (p : Int) + 1 ∧ p + r ≤ nl) ∧ Aside0 (Below wx.heap.size wx wr)) (fun _ v46 _ => M - (intOf v46).toNat)
  case atStart => exact ⟨_, 0, nl, rfl, rfl, Aside0.mk ⟨by omega, by omega⟩, HB0⟩
  case round =>
    obtain ⟨x, r, p, rfl, rfl, HX, HW⟩ := hrel
    have hrM : r < M := by have := HX.out; have := HM.out; omega
    have d1 : decide ((r : Int) < (M : Int)) = true := decide_eq_true (by omega)
    have hwp : wrap64 (x - 1) = (p : Int) := by have := HX.out; have := NN.out; unfold wrap64; omega
    have F0 := Aside0.mk (FX.out.below HW.out)
    have G0 := Aside0.mk (GX.out.below HW.out)
    go_wp2_with fail
    have HRM := Aside0.mk hrM
    clear hrM d1
    have hpl : p ≤ el.length := by have := HX.out; have := NN.out; omega
    have ht := term_calls G0.out (by decide) (by have := NN.out; omega) (p : Int)
    generalize hT : termAt 0 0 el (p : Int) = T at ht
    obtain ⟨T1, T2⟩ := T
    have HT := Aside0.mk hT
    have HTT := Aside0.mk ht
    have HPL := Aside0.mk hpl
    clear hT ht hpl
    refine HTT.out.mono ?_
    clear HTT
    rintro _ v1 ⟨rfl, m1, rfl⟩
    go_wp2_with fail
    have hcall := from_calls (G0.out.drewN m1) (by decide) (by have := NN.out; omega) x 100 (by decide) (by have := NN.out; omega) NN.out.2.2.2.2.2
    rw [HX.out.1, from_hundred el p (by have := NN.out; omega) HPL.out, ← HX.out.1] at hcall
    have HCALL := Aside0.mk hcall
    clear hcall
    refine HCALL.out.mono ?_
    clear HCALL
    rintro _ v2 ⟨val, rfl, hR, hb⟩
    obtain ⟨A12, c12, rfl, hc12, hC12⟩ := Kd.R_reads hR
    have F2 := Aside0.mk ((F0.out.drewN m1).below hb)
    have G2 := Aside0.mk ((G0.out.drewN m1).below hb)
    have W2 := Aside0.mk (below_over (pw_below_drewN HW.out m1) hb)
    have C12 := Aside0.mk (And.intro hC12 hc12)
    clear hR hb hC12 hc12 F0 G0 HW
    generalize hes : (el.drop p).length = q at *
    go_wp2_with fail
    have hqd : (el.drop p).length = q := hes
    by_cases hmt : termAt 0 0 ef (p : Int) = (T1, true)
    · -- the merge is taken
      have hfd := follow_done ef el p HPL.out (by rw [HT.out]; exact hmt)
      rw [HT.out] at hfd
      obtain ⟨n1, e1, hm1, hle1, hall⟩ := hfd
      have hmc := merge_calls F2.out (by decide) (p : Int) T1 A12 c12 (el.drop p) (by rw [hqd]; exact C12.out.1) (by rw [hqd]; exact C12.out.2) (fun x hx => NN.out.2.2.2.2.2 x (List.mem_of_mem_drop hx)) (by have h9 : (el.drop p).length ≤ el.length := (by rw [List.length_drop]; omega); have := NN.out; omega) (by have := NN.out; omega)
      rw [show (mergeL 0 0 ef (p : Int) T1 (el.drop p)) = (n1, true, e1) from hm1, hqd] at hmc
      have HMC := Aside0.mk hmc
      have ALL := Aside0.mk (And.intro hall (show e1.length ≤ 40 by have := NN.out; omega))
      clear hm1 hle1 hall hmc hmt hqd
      refine HMC.out.mono ?_
      clear HMC
      rintro _ v3 ⟨rfl, hl, hk, hb⟩
      have F3 := Aside0.mk hl
      have G3 := Aside0.mk (G2.out.kept hk (fun k h1 h2 => DIS.out k h2 h1))
      have W3 := Aside0.mk (below_kept BX.out (show Kept wx v3 (fun k => w3.heap.size ≤ k) from ⟨Nat.le_trans W2.out.size hk.1, fun i hi hn => (hk.2 i (Nat.lt_of_lt_of_le hi W2.out.size) (fun h => hn (by have := Bl4.out.size; have := Bl6.out.size; omega))).trans (W2.out.block i hi)⟩) ((W2.out.mono (Nat.zero_le _)).trans hb) (fun k hk' => Nat.le_trans B3.out.size hk'))
      clear hl hk hb F2 G2
      by_cases hp0 : p = 0
      · have hz0 : (p : Int) = 0 := by omega
        have dp1 : decide ((1 : Int) > (p : Int)) = true := decide_eq_true (by omega)
        have hp1 : (p : Int) < 1 := by omega
        have HP0 := Aside0.mk hp0
        clear hz0 hp0
        go_wp2_with fail
        simp only [hwp]
        clear hwp dp1 hp1
        have V0 := Aside0.mk (Below.refl v3.heap.size v3)
        go_loopw [15] (fun v15 wr2 => ∃ (i : Nat), v15 = .int .i64 (i : Int) ∧ Aside0 (p ≤ i ∧ i ≤ nl + 1) ∧ Aside0 (Below v3.heap.size v3 wr2)) (fun v15 _ => (nl + 1) - (intOf v15).toNat)
        case atStart => exact ⟨1, rfl, Aside0.mk (by have := HX.out; have := HP0.out; omega), V0⟩
        case round =>
          obtain ⟨i, rfl, HI, HV⟩ := hrel
          have hlast := last_calls (G3.out.below HV.out) (by decide) (by have := NN.out; omega)
          rw [NN.out.2.1] at hlast
          have HLAST := Aside0.mk hlast
          clear hlast
          go_wp2_with fail
          refine HLAST.out.mono ?_
          clear HLAST
          rintro _ v4 ⟨rfl, m4, rfl⟩
          by_cases hin : i ≤ nl
          · have din : decide ((i : Int) ≤ (nl : Int)) = true := decide_eq_true (by omega)
            go_wp2_with fail
            have HIN := Aside0.mk hin
            clear hin din
            have ht := term_calls ((G3.out.below HV.out).drewN m4) (by decide) (by have := NN.out; omega) (i : Int)
            have hf := ALL.out.1 i HI.out.1 (by have := NN.out; have := HIN.out; omega)
            generalize hU : termAt 0 0 el (i : Int) = U at ht hf
            obtain ⟨U1, U2⟩ := U
            have HTT := Aside0.mk ht
            have HF := Aside0.mk hf
            clear ht hf hU
            refine HTT.out.mono ?_
            clear HTT
            rintro _ v5 ⟨rfl, m5, rfl⟩
            go_wp2_with fail
            have ht := term_calls ((F3.out.below HV.out).drewN (m4 + m5)) (by decide) (by have := ALL.out.2; omega) (i : Int)
            rw [HF.out] at ht
            have HTT := Aside0.mk ht
            clear ht
            refine HTT.out.mono ?_
            clear HTT
            rintro _ v6 ⟨rfl, m6, rfl⟩
            have du : decide (U1 = U1) = true := by simp
            have hwi : wrap64 ((i : Int) + 1) = ((i + 1 : Nat) : Int) := by have := HIN.out; have := NN.out; unfold wrap64; omega
            go_wp2_with fail
            go_roundw
            case rel =>
              exact ⟨i + 1, by rw [hwi], Aside0.mk (by have := HI.out; have := HIN.out; omega), Aside0.mk (pw_below_drewN HV.out _)⟩
            case measure => have := HIN.out; rw [hwi]; simp [intOf]; omega
          · have din : decide ((i : Int) ≤ (nl : Int)) = false := decide_eq_false (by omega)
            have FIN := Aside0.mk (below_over W3.out (pw_below_drewN HV.out m4))
            go_wp2_with fail
            go_ret
            exact ⟨rfl, FIN.out⟩
      · have hp1 : (1 : Int) ≤ (p : Int) := by omega
        have dp1 : decide ((1 : Int) > (p : Int)) = false := decide_eq_false (by omega)
        go_wp2_with fail
        simp only [hwp]
        clear hwp dp1 hp1
        have V0 := Aside0.mk (Below.refl v3.heap.size v3)
        go_loopw [15] (fun v15 wr2 => ∃ (i : Nat), v15 = .int .i64 (i : Int) ∧ Aside0 (p ≤ i ∧ i ≤ nl + 1) ∧ Aside0 (Below v3.heap.size v3 wr2)) (fun v15 _ => (nl + 1) - (intOf v15).toNat)
        case atStart => exact ⟨p, rfl, Aside0.mk (by have := HX.out; omega), V0⟩
        case round =>
          obtain ⟨i, rfl, HI, HV⟩ := hrel
          have hlast := last_calls (G3.out.below HV.out) (by decide) (by have := NN.out; omega)
          rw [NN.out.2.1] at hlast
          have HLAST := Aside0.mk hlast
          clear hlast
          go_wp2_with fail
          refine HLAST.out.mono ?_
          clear HLAST
          rintro _ v4 ⟨rfl, m4, rfl⟩
          by_cases hin : i ≤ nl
          · have din : decide ((i : Int) ≤ (nl : Int)) = true := decide_eq_true (by omega)
            go_wp2_with fail
            have HIN := Aside0.mk hin
            clear hin din
            have ht := term_calls ((G3.out.below HV.out).drewN m4) (by decide) (by have := NN.out; omega) (i : Int)
            have hf := ALL.out.1 i HI.out.1 (by have := NN.out; have := HIN.out; omega)
            generalize hU : termAt 0 0 el (i : Int) = U at ht hf
            obtain ⟨U1, U2⟩ := U
            have HTT := Aside0.mk ht
            have HF := Aside0.mk hf
            clear ht hf hU
            refine HTT.out.mono ?_
            clear HTT
            rintro _ v5 ⟨rfl, m5, rfl⟩
            go_wp2_with fail
            have ht := term_calls ((F3.out.below HV.out).drewN (m4 + m5)) (by decide) (by have := ALL.out.2; omega) (i : Int)
            rw [HF.out] at ht
            have HTT := Aside0.mk ht
            clear ht
            refine HTT.out.mono ?_
            clear HTT
            rintro _ v6 ⟨rfl, m6, rfl⟩
            have du : decide (U1 = U1) = true := by simp
            have hwi : wrap64 ((i : Int) + 1) = ((i + 1 : Nat) : Int) := by have := HIN.out; have := NN.out; unfold wrap64; omega
            go_wp2_with fail
            go_roundw
            case rel =>
              exact ⟨i + 1, by rw [hwi], Aside0.mk (by have := HI.out; have := HIN.out; omega), Aside0.mk (pw_below_drewN HV.out _)⟩
            case measure => have := HIN.out; rw [hwi]; simp [intOf]; omega
          · have din : decide ((i : Int) ≤ (nl : Int)) = false := decide_eq_false (by omega)
            have FIN := Aside0.mk (below_over W3.out (pw_below_drewN HV.out m4))
            go_wp2_with fail
            go_ret
            exact ⟨rfl, FIN.out⟩
    · -- not taken: a hint, and nearer
      have hp0 : 0 < p := by
        rcases Nat.eq_zero_or_pos p with h | h
        · exfalso
          subst h
          apply hmt
          have h1 : termAt 0 0 el ((0 : Nat) : Int) = (0, true) := rfl
          have h2 := HT.out.symm.trans h1
          cases h2
          rfl
        · exact h
      have hnear := hint_nearer ef p hp0
      have HMT := Aside0.mk hmt
      clear hmt hp0
      refine (merge_calls_N2 F2.out (by decide) (by have := NN.out; omega) (p : Int) T1 _ (by omega) HMT.out).mono ?_
      rintro _ v3 ⟨rfl, m3, rfl⟩
      have hh := hint_calls (F2.out.drewN m3) (by decide) (by have := NN.out; omega) (p : Int)
      generalize hy : hintL 0 0 ef (p : Int) = y at hh hnear
      have HH := Aside0.mk hh
      have HY := Aside0.mk hnear
      clear hh hnear hy hqd hes
      go_wp2_with fail
      refine HH.out.mono ?_
      clear HH
      rintro _ v4 ⟨rfl, m4, rfl⟩
      have dy1 : decide (y > (p : Int)) = false := decide_eq_false (by have := HY.out; omega)
      have dy2 : decide (y < 1) = false := decide_eq_false (by have := HY.out; omega)
      have hwr : wrap64 ((r : Int) + 1) = ((r + 1 : Nat) : Int) := by have := HRM.out; have := HM.out; have := NN.out; unfold wrap64; omega
      go_wp2_with fail
      go_roundw
      case rel => exact ⟨y, r + 1, (y - 1).toNat, rfl, by rw [hwr], Aside0.mk (by have := HY.out; have := HX.out; omega), Aside0.mk (pw_below_drewN W2.out _)⟩
      case measure => have := HRM.out; rw [hwr]; simp [intOf]; omega
end Go.Proofs.Ytigjfnleinhahaa.PLog
