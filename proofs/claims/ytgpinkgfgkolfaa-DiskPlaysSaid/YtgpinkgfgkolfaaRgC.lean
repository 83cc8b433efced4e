/- The document's disk walked. -/
import Derived.Test.YtgpinkgfgkolfaaRgB
import Derived.Deep.RegionLaw
import Derived.Lib.MinMax
namespace Go.Proofs.Ytgpinkgfgkolfaa.PD
open Go.RowKit Go.Proofs.YtgpinkgfgkolfaaW.PrintWords Go.Proofs.YtgpinkgfgkolfaaW.PrintLast Go.Proofs.YtgpinkgfgkolfaaW.PrintMore
set_option linter.unusedVariables false
set_option linter.unusedSimpArgs false
set_option maxHeartbeats 4000000
set_option maxRecDepth 100000

open Go.Proofs

set_option maxHeartbeats 16000000 in
theorem rrem_calls (ok : Nat → Prop) (x : Nat) (R : Rb) (nm : ByteArray) {k L : Nat} (w : World) (h : RDisk w ok x R) (hfresh : ∀ k, w.heap.size ≤ k → ok k) (hF : RFine k L R) (hk : k ≤ 1000000) (hL : L ≤ 140737488355328) :
    Calls Try.prog 39 #[fptr x, .string nm] w fun e w' => e = .returned (.int .i64 (rremL R nm.data.toList).1) ∧ RDisk w' ok x (rremL R nm.data.toList).2 ∧ Kp ok w w' := by
  have HM := Aside0.mk (rmay_calls ok x R w h hF.left)
  obtain ⟨s1, s2, s3, s4⟩ := rmay_same R
  have hF1 := hF.may
  obtain ⟨mb, mf, R1, hma⟩ : ∃ mb mf R1, rmayL R = (mb, mf, R1) := ⟨_, _, _, rfl⟩
  rw [hma] at HM s1 s2 s3 s4 hF1
  have HF1 := Aside0.mk (show RFine k L R1 from hF1)
  have HK := Aside0.mk (And.intro hk hL)
  have HFR := Aside0.mk hfresh
  have HS1 := Aside0.mk (show R1.dir = R.dir from s1)
  obtain ⟨WR, hWR⟩ : ∃ WR, WR = rremL R nm.data.toList := ⟨_, rfl⟩
  rw [← hWR]
  have HW := Aside0.mk (show WR = if mb = false then ((171 : Int), R1) else match findL R.dir nm.data.toList with | none => ((172 : Int), R1) | some f => (fun _ Q => ((0 : Int), { Q with dir := delL Q.dir nm.data.toList })) f R1 by rw [hWR]; unfold rremL rcallL; rw [hma]; try rfl)
  clear hWR s1 s2 s3 s4 hma h hfresh hF hF1 hk hL
  cases mb with
  | false =>
    obtain ⟨at_, hat_⟩ : ∃ a, a = atI R1.dir nm.data.toList := ⟨_, rfl⟩
    have HAT := Aside0.mk hat_.symm
    clear hat_
    go_enter Try.func39, Try.ntmps39
    go_wp2_with fail
    refine HM.out.mono ?_
    rintro _ w1 ⟨rfl, hD1, hk1⟩
    obtain ⟨F, D, S, tg, h1⟩ := hD1
    obtain ⟨FA, fc, hF⟩ := h1.2.2.1.slice
    obtain ⟨DA, dc, hD⟩ := h1.2.2.2.1.slice
    subst hF hD
    obtain ⟨nf, hnf⟩ : ∃ n, n = R1.files.length := ⟨_, rfl⟩
    obtain ⟨nd, hnd⟩ : ∃ n, n = R1.dir.length := ⟨_, rfl⟩
    rw [← hnf, ← hnd] at h1
    have HN := Aside0.mk (And.intro hnf hnd)
    have c2 : w1.cell? ⟨x, 2, none⟩ = some (.slice DA nd dc) := h1.cell 2
    have H1 := Aside0.mk h1
    have HK1 := Aside0.mk hk1
    clear h1 hk1 HM hnf hnd
    go_wp2_with fail
    go_ret
    exact ⟨by rw [HW.out]; rfl, ⟨_, _, _, _, by rw [HW.out]; exact H1.out⟩, HK1.out⟩
  | true =>
    cases hf : findL R.dir nm.data.toList with
    | none =>
      rw [hf] at HW
      have HAT := Aside0.mk (show atI R1.dir nm.data.toList = -1 by unfold atI; rw [HS1.out, hf])
      clear hf
      go_enter Try.func39, Try.ntmps39
      go_wp2_with fail
      refine HM.out.mono ?_
      rintro _ w1 ⟨rfl, hD1, hk1⟩
      obtain ⟨F, D, S, tg, h1⟩ := hD1
      obtain ⟨FA, fc, hF⟩ := h1.2.2.1.slice
      obtain ⟨DA, dc, hD⟩ := h1.2.2.2.1.slice
      subst hF hD
      obtain ⟨nf, hnf⟩ : ∃ n, n = R1.files.length := ⟨_, rfl⟩
      obtain ⟨nd, hnd⟩ : ∃ n, n = R1.dir.length := ⟨_, rfl⟩
      rw [← hnf, ← hnd] at h1
      have HN := Aside0.mk (And.intro hnf hnd)
      have c2 : w1.cell? ⟨x, 2, none⟩ = some (.slice DA nd dc) := h1.cell 2
      have H1 := Aside0.mk h1
      have HK1 := Aside0.mk hk1
      clear h1 hk1 HM hnf hnd
      have hfind := rfind_calls ok DA dc nd R1.dir nm w1 H1.out.2.2.2.1
      rw [HAT.out] at hfind
      go_wp2_with fail
      refine hfind.mono ?_
      rintro _ w2 ⟨rfl, hb2⟩
      have HB2 := Aside0.mk hb2
      clear hfind hb2 c2
      go_wp2_with fail
      go_ret
      exact ⟨by rw [HW.out]; rfl, ⟨_, _, _, _, by rw [HW.out]; exact (H1.out.below HB2.out)⟩, (HK1.out.trans (Kp.of_below HB2.out))⟩
    | some i =>
      rw [hf] at HW
      have HAT := Aside0.mk (show atI R1.dir nm.data.toList = (i : Int) by unfold atI; rw [HS1.out, hf])
      have HIL := Aside0.mk (HF1.out.find (by rw [HS1.out]; exact hf))
      clear hf
      have hi0 : (0 : Int) ≤ (i : Int) := by omega
      have hi2 : decide ((i : Int) < 0) = false := decide_eq_false (by omega)
      go_enter Try.func39, Try.ntmps39
      go_wp2_with fail
      refine HM.out.mono ?_
      rintro _ w1 ⟨rfl, hD1, hk1⟩
      obtain ⟨F, D, S, tg, h1⟩ := hD1
      obtain ⟨FA, fc, hF⟩ := h1.2.2.1.slice
      obtain ⟨DA, dc, hD⟩ := h1.2.2.2.1.slice
      subst hF hD
      obtain ⟨nf, hnf⟩ : ∃ n, n = R1.files.length := ⟨_, rfl⟩
      obtain ⟨nd, hnd⟩ : ∃ n, n = R1.dir.length := ⟨_, rfl⟩
      rw [← hnf, ← hnd] at h1
      have HN := Aside0.mk (And.intro hnf hnd)
      have c2 : w1.cell? ⟨x, 2, none⟩ = some (.slice DA nd dc) := h1.cell 2
      have H1 := Aside0.mk h1
      have HK1 := Aside0.mk hk1
      clear h1 hk1 HM hnf hnd
      have hfind := rfind_calls ok DA dc nd R1.dir nm w1 H1.out.2.2.2.1
      rw [HAT.out] at hfind
      go_wp2_with fail
      refine hfind.mono ?_
      rintro _ w2 ⟨rfl, hb2⟩
      have HB2 := Aside0.mk hb2
      clear hfind hb2 c2
      have h2 := H1.out.below HB2.out
      have hk2 := HK1.out.trans (Kp.of_below HB2.out)
      have c3 : w2.cell? ⟨x, 2, none⟩ = some (.slice DA nd dc) := h2.cell 2
      have HK2 := Aside0.mk hk2
      have H2 := Aside0.mk h2
      clear h2 hk2
      go_wp2_with fail
      refine (rlink_calls ok DA dc nd R1.dir nm (-1) w2 H2.out.2.2.2.1 (by have := HF1.out.dir; have := HK.out; omega) (by decide)).mono ?_
      rintro _ w3 ⟨L', rfl, hL, hb3⟩
      obtain ⟨LA, lc, hLs⟩ := hL.slice
      subst hLs
      obtain ⟨hRB3, hkp3⟩ := H2.out.dir hb3 hL (fun k hk => HFR.out k (Nat.le_trans HK2.out.size hk))
      have hx3 := (hb3.block x H2.out.lt).trans H2.out.2.1
      have c5 : w3.cell? ⟨x, 2, none⟩ = some (.slice DA nd dc) := by simp [World.cell?, hx3, rcellsD]
      have f5 : w3.frozen? ⟨x, 2, none⟩ = false := Lib.frozen_of_heap hx3 2
      rw [lnk_del] at hRB3 hkp3 ⊢
      generalize (delL R1.dir nm.data.toList).length = ln at *
      have HE := Aside0.mk (And.intro hRB3 hkp3)
      clear hRB3 hkp3 hx3 hL hb3 c3
      go_wp2_with fail
      go_ret
      exact ⟨by rw [HW.out]; rfl, ⟨_, _, _, _, by rw [HW.out]; exact HE.out.1⟩, HK2.out.trans HE.out.2⟩

end Go.Proofs.Ytgpinkgfgkolfaa.PD

namespace Go.Proofs.Ytgpinkgfgkolfaa.PD
open Go.RowKit Go.Proofs.YtgpinkgfgkolfaaW.PrintWords Go.Proofs.YtgpinkgfgkolfaaW.PrintLast Go.Proofs.YtgpinkgfgkolfaaW.PrintMore
set_option linter.unusedVariables false
set_option linter.unusedSimpArgs false
set_option maxHeartbeats 4000000
set_option maxRecDepth 100000

open Go.Proofs

set_option maxHeartbeats 16000000 in
theorem rren_calls (ok : Nat → Prop) (x : Nat) (R : Rb) (nm tn : ByteArray) {k L : Nat} (w : World) (h : RDisk w ok x R) (hfresh : ∀ k, w.heap.size ≤ k → ok k) (hF : RFine k L R) (hk : k ≤ 1000000) (hL : L ≤ 140737488355328) :
    Calls Try.prog 38 #[fptr x, .string nm, .string tn] w fun e w' => e = .returned (.int .i64 (rrenL R nm.data.toList tn.data.toList).1) ∧ RDisk w' ok x (rrenL R nm.data.toList tn.data.toList).2 ∧ Kp ok w w' := by
  have HM := Aside0.mk (rmay_calls ok x R w h hF.left)
  obtain ⟨s1, s2, s3, s4⟩ := rmay_same R
  have hF1 := hF.may
  obtain ⟨mb, mf, R1, hma⟩ : ∃ mb mf R1, rmayL R = (mb, mf, R1) := ⟨_, _, _, rfl⟩
  rw [hma] at HM s1 s2 s3 s4 hF1
  have HF1 := Aside0.mk (show RFine k L R1 from hF1)
  have HK := Aside0.mk (And.intro hk hL)
  have HFR := Aside0.mk hfresh
  have HS1 := Aside0.mk (show R1.dir = R.dir from s1)
  obtain ⟨WR, hWR⟩ : ∃ WR, WR = rrenL R nm.data.toList tn.data.toList := ⟨_, rfl⟩
  rw [← hWR]
  have HW := Aside0.mk (show WR = if mb = false then ((171 : Int), R1) else match findL R.dir nm.data.toList with | none => ((172 : Int), R1) | some f => (fun f Q => if tn.data.toList = [] then ((2 : Int), Q) else (0, { Q with dir := linkG tn.data.toList f false (delL Q.dir nm.data.toList) })) f R1 by rw [hWR]; unfold rrenL rcallL; rw [hma]; try rfl)
  clear hWR s1 s2 s3 s4 hma h hfresh hF hF1 hk hL
  cases mb with
  | false =>
    obtain ⟨at_, hat_⟩ : ∃ a, a = atI R1.dir nm.data.toList := ⟨_, rfl⟩
    have HAT := Aside0.mk hat_.symm
    clear hat_
    go_enter Try.func38, Try.ntmps38
    go_wp2_with fail
    refine HM.out.mono ?_
    rintro _ w1 ⟨rfl, hD1, hk1⟩
    obtain ⟨F, D, S, tg, h1⟩ := hD1
    obtain ⟨FA, fc, hF⟩ := h1.2.2.1.slice
    obtain ⟨DA, dc, hD⟩ := h1.2.2.2.1.slice
    subst hF hD
    obtain ⟨nf, hnf⟩ : ∃ n, n = R1.files.length := ⟨_, rfl⟩
    obtain ⟨nd, hnd⟩ : ∃ n, n = R1.dir.length := ⟨_, rfl⟩
    rw [← hnf, ← hnd] at h1
    have HN := Aside0.mk (And.intro hnf hnd)
    have c2 : w1.cell? ⟨x, 2, none⟩ = some (.slice DA nd dc) := h1.cell 2
    have H1 := Aside0.mk h1
    have HK1 := Aside0.mk hk1
    clear h1 hk1 HM hnf hnd
    have hfind := rfind_calls ok DA dc nd R1.dir nm w1 H1.out.2.2.2.1
    rw [HAT.out] at hfind
    go_wp2_with fail
    refine hfind.mono ?_
    rintro _ w2 ⟨rfl, hb2⟩
    have HB2 := Aside0.mk hb2
    clear hfind hb2 c2
    go_wp2_with fail
    go_ret
    exact ⟨by rw [HW.out]; rfl, ⟨_, _, _, _, by rw [HW.out]; exact (H1.out.below HB2.out)⟩, (HK1.out.trans (Kp.of_below HB2.out))⟩
  | true =>
    cases hf : findL R.dir nm.data.toList with
    | none =>
      rw [hf] at HW
      have HAT := Aside0.mk (show atI R1.dir nm.data.toList = -1 by unfold atI; rw [HS1.out, hf])
      clear hf
      go_enter Try.func38, Try.ntmps38
      go_wp2_with fail
      refine HM.out.mono ?_
      rintro _ w1 ⟨rfl, hD1, hk1⟩
      obtain ⟨F, D, S, tg, h1⟩ := hD1
      obtain ⟨FA, fc, hF⟩ := h1.2.2.1.slice
      obtain ⟨DA, dc, hD⟩ := h1.2.2.2.1.slice
      subst hF hD
      obtain ⟨nf, hnf⟩ : ∃ n, n = R1.files.length := ⟨_, rfl⟩
      obtain ⟨nd, hnd⟩ : ∃ n, n = R1.dir.length := ⟨_, rfl⟩
      rw [← hnf, ← hnd] at h1
      have HN := Aside0.mk (And.intro hnf hnd)
      have c2 : w1.cell? ⟨x, 2, none⟩ = some (.slice DA nd dc) := h1.cell 2
      have H1 := Aside0.mk h1
      have HK1 := Aside0.mk hk1
      clear h1 hk1 HM hnf hnd
      have hfind := rfind_calls ok DA dc nd R1.dir nm w1 H1.out.2.2.2.1
      rw [HAT.out] at hfind
      go_wp2_with fail
      refine hfind.mono ?_
      rintro _ w2 ⟨rfl, hb2⟩
      have HB2 := Aside0.mk hb2
      clear hfind hb2 c2
      go_wp2_with fail
      go_ret
      exact ⟨by rw [HW.out]; rfl, ⟨_, _, _, _, by rw [HW.out]; exact (H1.out.below HB2.out)⟩, (HK1.out.trans (Kp.of_below HB2.out))⟩
    | some i =>
      rw [hf] at HW
      have HAT := Aside0.mk (show atI R1.dir nm.data.toList = (i : Int) by unfold atI; rw [HS1.out, hf])
      have HIL := Aside0.mk (HF1.out.find (by rw [HS1.out]; exact hf))
      clear hf
      have hi0 : (0 : Int) ≤ (i : Int) := by omega
      have hi2 : decide ((i : Int) < 0) = false := decide_eq_false (by omega)
      have het : tn.size = tn.data.toList.length := by rw [Array.length_toList]; rfl
      by_cases ht : tn.data.toList = []
      · have e0 : tn.size = 0 := by rw [het, ht]; rfl
        have HW2 := Aside0.mk (show WR = (2, R1) by rw [HW.out]; exact if_pos ht)
        clear ht het
        go_enter Try.func38, Try.ntmps38
        go_wp2_with fail
        refine HM.out.mono ?_
        rintro _ w1 ⟨rfl, hD1, hk1⟩
        obtain ⟨F, D, S, tg, h1⟩ := hD1
        obtain ⟨FA, fc, hF⟩ := h1.2.2.1.slice
        obtain ⟨DA, dc, hD⟩ := h1.2.2.2.1.slice
        subst hF hD
        obtain ⟨nf, hnf⟩ : ∃ n, n = R1.files.length := ⟨_, rfl⟩
        obtain ⟨nd, hnd⟩ : ∃ n, n = R1.dir.length := ⟨_, rfl⟩
        rw [← hnf, ← hnd] at h1
        have HN := Aside0.mk (And.intro hnf hnd)
        have c2 : w1.cell? ⟨x, 2, none⟩ = some (.slice DA nd dc) := h1.cell 2
        have H1 := Aside0.mk h1
        have HK1 := Aside0.mk hk1
        clear h1 hk1 HM hnf hnd
        have hfind := rfind_calls ok DA dc nd R1.dir nm w1 H1.out.2.2.2.1
        rw [HAT.out] at hfind
        go_wp2_with fail
        refine hfind.mono ?_
        rintro _ w2 ⟨rfl, hb2⟩
        have HB2 := Aside0.mk hb2
        clear hfind hb2 c2
        go_wp2_with fail
        go_ret
        exact ⟨by rw [HW2.out]; rfl, ⟨_, _, _, _, by rw [HW2.out]; exact (H1.out.below HB2.out)⟩, (HK1.out.trans (Kp.of_below HB2.out))⟩
      · have e0 : ¬ tn.size = 0 := by
          rw [het]
          cases h : tn.data.toList with
          | nil => exact absurd h ht
          | cons => simp
        have HW2 := Aside0.mk (show WR = (0, { R1 with dir := linkG tn.data.toList i false (delL R1.dir nm.data.toList) }) by rw [HW.out]; exact if_neg ht)
        clear ht het
        go_enter Try.func38, Try.ntmps38
        go_wp2_with fail
        refine HM.out.mono ?_
        rintro _ w1 ⟨rfl, hD1, hk1⟩
        obtain ⟨F, D, S, tg, h1⟩ := hD1
        obtain ⟨FA, fc, hF⟩ := h1.2.2.1.slice
        obtain ⟨DA, dc, hD⟩ := h1.2.2.2.1.slice
        subst hF hD
        obtain ⟨nf, hnf⟩ : ∃ n, n = R1.files.length := ⟨_, rfl⟩
        obtain ⟨nd, hnd⟩ : ∃ n, n = R1.dir.length := ⟨_, rfl⟩
        rw [← hnf, ← hnd] at h1
        have HN := Aside0.mk (And.intro hnf hnd)
        have c2 : w1.cell? ⟨x, 2, none⟩ = some (.slice DA nd dc) := h1.cell 2
        have H1 := Aside0.mk h1
        have HK1 := Aside0.mk hk1
        clear h1 hk1 HM hnf hnd
        have hfind := rfind_calls ok DA dc nd R1.dir nm w1 H1.out.2.2.2.1
        rw [HAT.out] at hfind
        go_wp2_with fail
        refine hfind.mono ?_
        rintro _ w2 ⟨rfl, hb2⟩
        have HB2 := Aside0.mk hb2
        clear hfind hb2 c2
        have h2 := H1.out.below HB2.out
        have hk2 := HK1.out.trans (Kp.of_below HB2.out)
        have c3 : w2.cell? ⟨x, 2, none⟩ = some (.slice DA nd dc) := h2.cell 2
        have HK2 := Aside0.mk hk2
        have H2 := Aside0.mk h2
        clear h2 hk2
        go_wp2_with fail
        refine (rlink_calls ok DA dc nd R1.dir nm (-1) w2 H2.out.2.2.2.1 (by have := HF1.out.dir; have := HK.out; omega) (by decide)).mono ?_
        rintro _ w3 ⟨L', rfl, hL, hb3⟩
        obtain ⟨LA, lc, hLs⟩ := hL.slice
        subst hLs
        obtain ⟨hRB3, hkp3⟩ := H2.out.dir hb3 hL (fun k hk => HFR.out k (Nat.le_trans HK2.out.size hk))
        have hx3 := (hb3.block x H2.out.lt).trans H2.out.2.1
        have c5 : w3.cell? ⟨x, 2, none⟩ = some (.slice DA nd dc) := by simp [World.cell?, hx3, rcellsD]
        have f5 : w3.frozen? ⟨x, 2, none⟩ = false := Lib.frozen_of_heap hx3 2
        rw [lnk_del] at hRB3 hkp3 ⊢
        obtain ⟨ln, hln⟩ : ∃ n, n = (delL R1.dir nm.data.toList).length := ⟨_, rfl⟩
        rw [← hln] at hRB3 hkp3 ⊢
        have HLN := Aside0.mk (show (delL R1.dir nm.data.toList).length ≤ 1000000 by have := del_len R1.dir nm.data.toList; have := HF1.out.dir; have := HK.out; omega)
        obtain ⟨w4, hw4⟩ : ∃ W, W = w3.setCell ⟨x, 2, none⟩ (.slice LA ln lc) := ⟨_, rfl⟩
        have HW4 := Aside0.mk hw4.symm
        rw [← hw4] at hRB3 hkp3
        have HK4 := Aside0.mk (HK2.out.trans hkp3)
        have H4 := Aside0.mk hRB3
        have c6 : w4.cell? ⟨x, 2, none⟩ = some (.slice LA ln lc) := hRB3.cell 2
        clear hRB3 hkp3 hx3 hL hb3 c3 hw4 hln
        go_wp2_with fail
        change Calls _ _ _ (w3.setCell ⟨x, 2, none⟩ (.slice LA ln lc)) _
        rw [HW4.out]
        refine (rlink_calls ok LA lc ln _ tn (i : Int) w4 H4.out.2.2.2.1 HLN.out (by omega)).mono ?_
        rintro _ w5 ⟨L2, rfl, hL, hb5⟩
        obtain ⟨MA, mc, hLs⟩ := hL.slice
        subst hLs
        obtain ⟨hRB5, hkp5⟩ := H4.out.dir hb5 hL (fun k hk => HFR.out k (Nat.le_trans HK4.out.size hk))
        have hx5 := (hb5.block x H4.out.lt).trans H4.out.2.1
        have c7 : w5.cell? ⟨x, 2, none⟩ = some (.slice LA ln lc) := by simp [World.cell?, hx5, rcellsD]
        have f7 : w5.frozen? ⟨x, 2, none⟩ = false := Lib.frozen_of_heap hx5 2
        rw [lnk_put, ← link_is] at hRB5 hkp5 ⊢
        generalize (linkG tn.data.toList i false (delL R1.dir nm.data.toList)).length = l2 at *
        have HE := Aside0.mk (And.intro hRB5 hkp5)
        clear hRB5 hkp5 hx5 hL hb5 c5 f5 c6
        go_wp2_with fail
        go_ret
        exact ⟨by rw [HW2.out]; rfl, ⟨_, _, _, _, by rw [HW2.out]; exact HE.out.1⟩, HK4.out.trans HE.out.2⟩

end Go.Proofs.Ytgpinkgfgkolfaa.PD

namespace Go.Proofs.Ytgpinkgfgkolfaa.PD
open Go.RowKit Go.Proofs.YtgpinkgfgkolfaaW.PrintWords Go.Proofs.YtgpinkgfgkolfaaW.PrintLast Go.Proofs.YtgpinkgfgkolfaaW.PrintMore
set_option linter.unusedVariables false
set_option linter.unusedSimpArgs false
set_option maxHeartbeats 4000000
set_option maxRecDepth 100000

open Go.Proofs

set_option maxHeartbeats 16000000 in
theorem rflush_calls (ok : Nat → Prop) (x : Nat) (R : Rb)  {k L : Nat} (w : World) (h : RDisk w ok x R) (hfresh : ∀ k, w.heap.size ≤ k → ok k) (hF : RFine k L R) (hk : k ≤ 1000000) (hL : L ≤ 140737488355328) :
    Calls Try.prog 40 #[fptr x] w fun e w' => e = .returned (.int .i64 (rflushL R).1) ∧ RDisk w' ok x (rflushL R).2 ∧ Kp ok w w' := by
  have HM := Aside0.mk (rmay_calls ok x R w h hF.left)
  obtain ⟨s1, s2, s3, s4⟩ := rmay_same R
  have hF1 := hF.may
  obtain ⟨mb, mf, R1, hma⟩ : ∃ mb mf R1, rmayL R = (mb, mf, R1) := ⟨_, _, _, rfl⟩
  rw [hma] at HM s1 s2 s3 s4 hF1
  have HF1 := Aside0.mk (show RFine k L R1 from hF1)
  have HK := Aside0.mk (And.intro hk hL)
  have HFR := Aside0.mk hfresh
  have HS1 := Aside0.mk (show R1.dir = R.dir from s1)
  obtain ⟨WR, hWR⟩ : ∃ WR, WR = rflushL R := ⟨_, rfl⟩
  rw [← hWR]
  have HW := Aside0.mk (show WR = if mb = false then ((171 : Int), R1) else (0, { R1 with safe := R1.dir }) by rw [hWR]; unfold rflushL; rw [hma]; try rfl)
  clear hWR s1 s2 s3 s4 hma h hfresh hF hF1 hk hL
  cases mb with
  | false =>
    go_enter Try.func40, Try.ntmps40
    go_wp2_with fail
    refine HM.out.mono ?_
    rintro _ w1 ⟨rfl, hD1, hk1⟩
    obtain ⟨F, D, S, tg, h1⟩ := hD1
    obtain ⟨FA, fc, hF⟩ := h1.2.2.1.slice
    obtain ⟨DA, dc, hD⟩ := h1.2.2.2.1.slice
    subst hF hD
    obtain ⟨nf, hnf⟩ : ∃ n, n = R1.files.length := ⟨_, rfl⟩
    obtain ⟨nd, hnd⟩ : ∃ n, n = R1.dir.length := ⟨_, rfl⟩
    rw [← hnf, ← hnd] at h1
    have HN := Aside0.mk (And.intro hnf hnd)
    have c2 : w1.cell? ⟨x, 2, none⟩ = some (.slice DA nd dc) := h1.cell 2
    have H1 := Aside0.mk h1
    have HK1 := Aside0.mk hk1
    clear h1 hk1 HM hnf hnd
    go_wp2_with fail
    go_ret
    exact ⟨by rw [HW.out]; rfl, ⟨_, _, _, _, by rw [HW.out]; exact H1.out⟩, HK1.out⟩
  | true =>
    go_enter Try.func40, Try.ntmps40
    go_wp2_with fail
    refine HM.out.mono ?_
    rintro _ w1 ⟨rfl, hD1, hk1⟩
    obtain ⟨F, D, S, tg, h1⟩ := hD1
    obtain ⟨FA, fc, hF⟩ := h1.2.2.1.slice
    obtain ⟨DA, dc, hD⟩ := h1.2.2.2.1.slice
    subst hF hD
    obtain ⟨nf, hnf⟩ : ∃ n, n = R1.files.length := ⟨_, rfl⟩
    obtain ⟨nd, hnd⟩ : ∃ n, n = R1.dir.length := ⟨_, rfl⟩
    rw [← hnf, ← hnd] at h1
    have HN := Aside0.mk (And.intro hnf hnd)
    have c2 : w1.cell? ⟨x, 2, none⟩ = some (.slice DA nd dc) := h1.cell 2
    have H1 := Aside0.mk h1
    have HK1 := Aside0.mk hk1
    clear h1 hk1 HM hnf hnd
    obtain ⟨A1, c1, w2, hrun, hL, hb2⟩ := own_links H1.out.2.2.2.1 (by have := HF1.out.dir; have := HK.out; omega)
    obtain ⟨SA, sc, hS⟩ := H1.out.2.2.2.2.slice
    have hnew := below_alloc (Below.refl w1.heap.size w1) (.cells #[] 53)
    have c3 : (w1.alloc (.cells #[] 53)).cell? ⟨x, 2, none⟩ = some (.slice DA nd dc) := pw_cell_below hnew c2
    have hx2 := (hb2.block x H1.out.lt).trans H1.out.2.1
    have c4 : w2.cell? ⟨x, 3, none⟩ = some S := by simp [World.cell?, hx2, rcellsD]
    have f4 : w2.frozen? ⟨x, 3, none⟩ = false := Lib.frozen_of_heap hx2 3
    obtain ⟨hE1, hE2⟩ := H1.out.safe hb2 hL (fun k hk => HFR.out k (Nat.le_trans HK1.out.size hk))
    have HE := Aside0.mk (And.intro hE1 hE2)
    have HRUN := Aside0.mk hrun
    clear hrun hL hb2 hnew hx2 hE1 hE2
    subst hS
    go_wp2_with (at_builtin; refine wpList_append_run rfl _ _ 46 rfl _ _ _ _ rfl rfl HRUN.out ?_)
    go_ret
    exact ⟨by rw [HW.out]; rfl, ⟨_, _, _, _, by rw [HW.out]; exact HE.out.1⟩, HK1.out.trans HE.out.2⟩

end Go.Proofs.Ytgpinkgfgkolfaa.PD

namespace Go.Proofs.Ytgpinkgfgkolfaa.PD
open Go.RowKit Go.Proofs.YtgpinkgfgkolfaaW.PrintWords Go.Proofs.YtgpinkgfgkolfaaW.PrintLast Go.Proofs.YtgpinkgfgkolfaaW.PrintMore
set_option linter.unusedVariables false
set_option linter.unusedSimpArgs false
set_option maxHeartbeats 4000000
set_option maxRecDepth 100000

open Go.Proofs

set_option maxHeartbeats 4000000 in
theorem rfail_calls (ok : Nat → Prop) (x : Nat) (R : Rb) (n : Int) (w : World) (h : RDisk w ok x R) :
    Calls Try.prog 42 #[fptr x, .int .i64 n] w fun e w' => e = .returned (.tuple #[]) ∧ RDisk w' ok x (rfailL R n) ∧ Kp ok w w' := by
  obtain ⟨F, D, S, tg, h⟩ := h
  have c4 : w.cell? ⟨x, 4, none⟩ = some (.bool R.fl) := h.cell 4
  have c5 : w.cell? ⟨x, 5, none⟩ = some (.int .i64 R.left) := h.cell 5
  have c6 : w.cell? ⟨x, 6, none⟩ = some (.bool R.torn) := h.cell 6
  have f4 := h.free 4
  have f5 := h.free 5
  have f6 := h.free 6
  have HT := Aside0.mk (show RB (((w.setCell ⟨x, 4, none⟩ (.bool true)).setCell ⟨x, 5, none⟩ (.int .i64 n)).setCell ⟨x, 6, none⟩ (.bool false)) ok x F D S tg (rfailL R n) from h.turn rfl rfl rfl (heap_put (heap_put (heap_put h.2.1 _ (by rfl)) _ (by rfl)) _ (by rfl)) (fun k _ hk => (Below.heap_setCell _ _ _ k hk).trans ((Below.heap_setCell _ _ _ k hk).trans (Below.heap_setCell _ _ _ k hk))))
  have HK := Aside0.mk (show Kp ok w (((w.setCell ⟨x, 4, none⟩ (.bool true)).setCell ⟨x, 5, none⟩ (.int .i64 n)).setCell ⟨x, 6, none⟩ (.bool false)) from (((Kp.refl _ _).setCell (p := ⟨x, 4, none⟩) h.1 _).setCell (p := ⟨x, 5, none⟩) h.1 _).setCell (p := ⟨x, 6, none⟩) h.1 _)
  clear h
  go_enter Try.func42, Try.ntmps42
  go_wp2_with fail
  go_end0
  exact ⟨rfl, ⟨_, _, _, _, HT.out⟩, HK.out⟩

end Go.Proofs.Ytgpinkgfgkolfaa.PD

namespace Go.Proofs.Ytgpinkgfgkolfaa.PD
open Go.RowKit Go.Proofs.YtgpinkgfgkolfaaW.PrintWords Go.Proofs.YtgpinkgfgkolfaaW.PrintLast Go.Proofs.YtgpinkgfgkolfaaW.PrintMore
set_option linter.unusedVariables false
set_option linter.unusedSimpArgs false
set_option maxHeartbeats 4000000
set_option maxRecDepth 100000

open Go.Proofs

set_option maxHeartbeats 16000000 in
theorem rread_calls (ok : Nat → Prop) (x : Nat) (R : Rb) (nm : ByteArray) {k L : Nat} (w : World) (h : RDisk w ok x R) (hF : RFine k L R) :
    Calls Try.prog 21 #[fptr x, .string nm] w fun e w' => ∃ v, e = .returned (.tuple #[v, .bool (rreadL R nm.data.toList).isSome]) ∧ SrcAt w' v ((rreadL R nm.data.toList).getD []) ∧ Below w.heap.size w w' := by
  obtain ⟨F, D, S, tg, h⟩ := h
  obtain ⟨FA, fc, hFs⟩ := h.2.2.1.slice
  obtain ⟨DA, dc, hD⟩ := h.2.2.2.1.slice
  subst hFs hD
  obtain ⟨nf, hnf⟩ : ∃ n, n = R.files.length := ⟨_, rfl⟩
  obtain ⟨nd, hnd⟩ : ∃ n, n = R.dir.length := ⟨_, rfl⟩
  rw [← hnf, ← hnd] at h
  have c2 : w.cell? ⟨x, 2, none⟩ = some (.slice DA nd dc) := h.cell 2
  have hfind := rfind_calls ok DA dc nd R.dir nm w h.2.2.2.1
  cases hf : findL R.dir nm.data.toList with
  | none =>
    have hat : atI R.dir nm.data.toList = -1 := by unfold atI; rw [hf]
    rw [hat] at hfind
    have hrd : rreadL R nm.data.toList = none := by unfold rreadL; rw [hf]; rfl
    rw [hrd]
    clear h hF hf hat hrd hnf hnd
    show Calls _ _ _ _ fun e w' => ∃ v, e = .returned (.tuple #[v, .bool false]) ∧ SrcAt w' v [] ∧ Below w.heap.size w w'
    go_enter Try.func21, Try.ntmps21
    go_wp2_with fail
    refine hfind.mono ?_
    rintro _ w2 ⟨rfl, hb2⟩
    have HB2 := Aside0.mk hb2
    clear hb2 hfind
    go_wp2_with fail
    go_ret2
    exact ⟨_, rfl, .inl ⟨rfl, rfl⟩, HB2.out⟩
  | some i =>
    have hat : atI R.dir nm.data.toList = (i : Int) := by unfold atI; rw [hf]
    rw [hat] at hfind
    have hil := hF.find hf
    have hrd : rreadL R nm.data.toList = some (fileR R i).1 := by unfold rreadL; rw [hf]; rfl
    rw [hrd]
    show Calls _ _ _ _ fun e w' => ∃ v, e = .returned (.tuple #[v, .bool true]) ∧ SrcAt w' v (fileR R i).1 ∧ Below w.heap.size w w'
    generalize hbs : (fileR R i).1 = bs
    have HBS := Aside0.mk hbs
    have hi0 : (0 : Int) ≤ (i : Int) := by omega
    have hi1 : (i : Int) < (nf : Int) := by omega
    have hi2 : decide ((i : Int) < 0) = false := decide_eq_false (by omega)
    have H := Aside0.mk h
    have HIL := Aside0.mk hil
    clear h hF hf hil hnf hnd hat hrd hbs
    go_enter Try.func21, Try.ntmps21
    go_wp2_with fail
    refine hfind.mono ?_
    rintro _ w2 ⟨rfl, hb2⟩
    have h2 := H.out.below hb2
    obtain ⟨g, U, ul, uc, hA1, _, _, hul, _, k1, _, _, hbr⟩ := h2.file HIL.out
    subst hA1
    have c3 : w2.cell? ⟨x, 1, none⟩ = some (.slice (some ⟨g, 0, none⟩) nf fc) := h2.cell 1
    have HSR := Aside0.mk hbr.src
    have HB2 := Aside0.mk hb2
    clear hfind hb2 h2 hul hbr c2
    go_wp2_with fail
    go_ret2
    exact ⟨_, rfl, by rw [← HBS.out]; exact HSR.out, HB2.out⟩

end Go.Proofs.Ytgpinkgfgkolfaa.PD

namespace Go.Proofs.Ytgpinkgfgkolfaa.PD
open Go.RowKit Go.Proofs.YtgpinkgfgkolfaaW.PrintWords Go.Proofs.YtgpinkgfgkolfaaW.PrintLast Go.Proofs.YtgpinkgfgkolfaaW.PrintMore
set_option linter.unusedVariables false
set_option linter.unusedSimpArgs false
set_option maxHeartbeats 4000000
set_option maxRecDepth 100000

open Go.Proofs

set_option maxHeartbeats 16000000 in
theorem rsync_calls (ok : Nat → Prop) (x : Nat) (R : Rb) (nm : ByteArray) {k L : Nat} (w : World) (h : RDisk w ok x R) (hfresh : ∀ k, w.heap.size ≤ k → ok k) (hF : RFine k L R) (hk : k ≤ 1000000) (hL : L ≤ 140737488355328) :
    Calls Try.prog 37 #[fptr x, .string nm] w fun e w' => e = .returned (.int .i64 (rsyncL R nm.data.toList).1) ∧ RDisk w' ok x (rsyncL R nm.data.toList).2 ∧ Kp ok w w' := by
  have HM := Aside0.mk (rmay_calls ok x R w h hF.left)
  obtain ⟨s1, s2, s3, s4⟩ := rmay_same R
  have hF1 := hF.may
  obtain ⟨mb, mf, R1, hma⟩ : ∃ mb mf R1, rmayL R = (mb, mf, R1) := ⟨_, _, _, rfl⟩
  rw [hma] at HM s1 s2 s3 s4 hF1
  have HF1 := Aside0.mk (show RFine k L R1 from hF1)
  have HK := Aside0.mk (And.intro hk hL)
  have HFR := Aside0.mk hfresh
  have HS1 := Aside0.mk (show R1.dir = R.dir from s1)
  obtain ⟨WR, hWR⟩ : ∃ WR, WR = rsyncL R nm.data.toList := ⟨_, rfl⟩
  rw [← hWR]
  have HW := Aside0.mk (show WR = if mb = false then ((171 : Int), R1) else match findL R.dir nm.data.toList with | none => ((172 : Int), R1) | some f => rsyncR f R1 by rw [hWR]; unfold rsyncL rcallL; rw [hma]; try rfl)
  clear hWR s1 s2 s3 s4 hma h hfresh hF hF1 hk hL
  cases mb with
  | false =>
    obtain ⟨at_, hat_⟩ : ∃ a, a = atI R1.dir nm.data.toList := ⟨_, rfl⟩
    have HAT := Aside0.mk hat_.symm
    clear hat_
    go_enter Try.func37, Try.ntmps37
    go_wp2_with fail
    refine HM.out.mono ?_
    rintro _ w1 ⟨rfl, hD1, hk1⟩
    obtain ⟨F, D, S, tg, h1⟩ := hD1
    obtain ⟨FA, fc, hF⟩ := h1.2.2.1.slice
    obtain ⟨DA, dc, hD⟩ := h1.2.2.2.1.slice
    subst hF hD
    obtain ⟨nf, hnf⟩ : ∃ n, n = R1.files.length := ⟨_, rfl⟩
    obtain ⟨nd, hnd⟩ : ∃ n, n = R1.dir.length := ⟨_, rfl⟩
    rw [← hnf, ← hnd] at h1
    have HN := Aside0.mk (And.intro hnf hnd)
    have c2 : w1.cell? ⟨x, 2, none⟩ = some (.slice DA nd dc) := h1.cell 2
    have H1 := Aside0.mk h1
    have HK1 := Aside0.mk hk1
    clear h1 hk1 HM hnf hnd
    have hfind := rfind_calls ok DA dc nd R1.dir nm w1 H1.out.2.2.2.1
    rw [HAT.out] at hfind
    go_wp2_with fail
    refine hfind.mono ?_
    rintro _ w2 ⟨rfl, hb2⟩
    have HB2 := Aside0.mk hb2
    clear hfind hb2 c2
    go_wp2_with fail
    go_ret
    exact ⟨by rw [HW.out]; rfl, ⟨_, _, _, _, by rw [HW.out]; exact (H1.out.below HB2.out)⟩, (HK1.out.trans (Kp.of_below HB2.out))⟩
  | true =>
    cases hf : findL R.dir nm.data.toList with
    | none =>
      rw [hf] at HW
      have HAT := Aside0.mk (show atI R1.dir nm.data.toList = -1 by unfold atI; rw [HS1.out, hf])
      clear hf
      go_enter Try.func37, Try.ntmps37
      go_wp2_with fail
      refine HM.out.mono ?_
      rintro _ w1 ⟨rfl, hD1, hk1⟩
      obtain ⟨F, D, S, tg, h1⟩ := hD1
      obtain ⟨FA, fc, hF⟩ := h1.2.2.1.slice
      obtain ⟨DA, dc, hD⟩ := h1.2.2.2.1.slice
      subst hF hD
      obtain ⟨nf, hnf⟩ : ∃ n, n = R1.files.length := ⟨_, rfl⟩
      obtain ⟨nd, hnd⟩ : ∃ n, n = R1.dir.length := ⟨_, rfl⟩
      rw [← hnf, ← hnd] at h1
      have HN := Aside0.mk (And.intro hnf hnd)
      have c2 : w1.cell? ⟨x, 2, none⟩ = some (.slice DA nd dc) := h1.cell 2
      have H1 := Aside0.mk h1
      have HK1 := Aside0.mk hk1
      clear h1 hk1 HM hnf hnd
      have hfind := rfind_calls ok DA dc nd R1.dir nm w1 H1.out.2.2.2.1
      rw [HAT.out] at hfind
      go_wp2_with fail
      refine hfind.mono ?_
      rintro _ w2 ⟨rfl, hb2⟩
      have HB2 := Aside0.mk hb2
      clear hfind hb2 c2
      go_wp2_with fail
      go_ret
      exact ⟨by rw [HW.out]; rfl, ⟨_, _, _, _, by rw [HW.out]; exact (H1.out.below HB2.out)⟩, (HK1.out.trans (Kp.of_below HB2.out))⟩
    | some i =>
      rw [hf] at HW
      have HAT := Aside0.mk (show atI R1.dir nm.data.toList = (i : Int) by unfold atI; rw [HS1.out, hf])
      have HIL := Aside0.mk (HF1.out.find (by rw [HS1.out]; exact hf))
      clear hf
      have hi0 : (0 : Int) ≤ (i : Int) := by omega
      have hi2 : decide ((i : Int) < 0) = false := decide_eq_false (by omega)
      go_enter Try.func37, Try.ntmps37
      go_wp2_with fail
      refine HM.out.mono ?_
      rintro _ w1 ⟨rfl, hD1, hk1⟩
      obtain ⟨F, D, S, tg, h1⟩ := hD1
      obtain ⟨FA, fc, hF⟩ := h1.2.2.1.slice
      obtain ⟨DA, dc, hD⟩ := h1.2.2.2.1.slice
      subst hF hD
      obtain ⟨nf, hnf⟩ : ∃ n, n = R1.files.length := ⟨_, rfl⟩
      obtain ⟨nd, hnd⟩ : ∃ n, n = R1.dir.length := ⟨_, rfl⟩
      rw [← hnf, ← hnd] at h1
      have HN := Aside0.mk (And.intro hnf hnd)
      have c2 : w1.cell? ⟨x, 2, none⟩ = some (.slice DA nd dc) := h1.cell 2
      have H1 := Aside0.mk h1
      have HK1 := Aside0.mk hk1
      clear h1 hk1 HM hnf hnd
      have hfind := rfind_calls ok DA dc nd R1.dir nm w1 H1.out.2.2.2.1
      rw [HAT.out] at hfind
      go_wp2_with fail
      refine hfind.mono ?_
      rintro _ w2 ⟨rfl, hb2⟩
      have HB2 := Aside0.mk hb2
      clear hfind hb2 c2
      have hbd := below_drew (Below.refl w2.heap.size w2)
      have h2 := (H1.out.below HB2.out).below hbd
      have hk2 := (HK1.out.trans (Kp.of_below HB2.out)).trans (Kp.of_below hbd)
      obtain ⟨g, U, ul, uc, hA1, hgo, hnf, hul, hle, k1, k2, ⟨cur, hgh⟩, hbr⟩ := h2.file HIL.out
      subst hA1
      have hi1 : (i : Int) < (nf : Int) := by have := HIL.out; omega
      have c3 : w2.drew.cell? ⟨x, 1, none⟩ = some (.slice (some ⟨g, 0, none⟩) nf fc) := h2.cell 1
      have f3 : w2.drew.frozen? ⟨g, i * 2 + 1, none⟩ = false := Lib.frozen_of_heap hgh _
      obtain ⟨hE1, hE2⟩ := h2.upto HIL.out ul
      rw [hul] at hE1 hE2
      have HE := Aside0.mk (And.intro hE1 (hk2.trans hE2))
      rw [← hul] at HE
      have HUL := Aside0.mk hul
      clear h2 hk2 hE1 hE2 hgh hbr hul hgo hnf hbd hle
      go_wp2_with fail
      go_region
      all_goals
        go_wp2_with fail
        go_ret
        exact ⟨by rw [HW.out]; rfl, ⟨_, _, _, _, by rw [HW.out]; unfold rsyncR; rw [← HUL.out]; exact HE.out.1⟩, HE.out.2⟩

end Go.Proofs.Ytgpinkgfgkolfaa.PD

namespace Go.Proofs.Ytgpinkgfgkolfaa.PD
open Go.RowKit Go.Proofs.YtgpinkgfgkolfaaW.PrintWords Go.Proofs.YtgpinkgfgkolfaaW.PrintLast Go.Proofs.YtgpinkgfgkolfaaW.PrintMore
set_option linter.unusedVariables false
set_option linter.unusedSimpArgs false
set_option maxHeartbeats 4000000
set_option maxRecDepth 100000

open Go.Proofs

/-- append([]byte{}, bytes...). -/
theorem own_bytes {w : World} {s : Value} {bs : List UInt8} (hs : SrcAt w s bs) (hl : bs.length ≤ 140737488355328) :
    ∃ V vc w1, (Builtin.append_ #[29, 29] 29 #[.slice (some ⟨w.heap.size, 0, none⟩) 0 0, s]).run Try.prog (w.alloc (.cells #[] 5)) = .ok (.slice V bs.length vc) w1 ∧ BR w1 (fun k => w.heap.size ≤ k) (.slice V bs.length vc) bs ∧ Below w.heap.size w w1 := by
  have hb : Below w.heap.size w (w.alloc (.cells #[] 5)) := below_alloc (Below.refl _ _) _
  have hnew : BR (w.alloc (.cells #[] 5)) (fun k => w.heap.size ≤ k) (.slice (some ⟨w.heap.size, 0, none⟩) 0 0) [] := ⟨World.ownsRow_made w #[] 0 (Nat.zero_le _) (Nat.zero_le _) rfl, fun g hg => by
    injection hg with hg
    show w.heap.size ≤ g
    rw [← hg]; exact Nat.le_refl _⟩
  obtain ⟨v1, w1, hrun, hr, hg⟩ := hnew.append (hs.below hb) (by simpa using hl)
  rw [List.nil_append] at hr
  obtain ⟨V, vc, e, _⟩ := hr.slice
  subst e
  refine ⟨V, vc, w1, hrun, hr.mono fun k hk _ => ?_, ⟨hg.os.trans hb.os, hg.tape.trans hb.tape, hg.output.trans hb.output, Nat.le_trans hb.size hg.size, fun k hk => (hg.block k (Nat.lt_of_lt_of_le hk hb.size) (fun e => ?_)).trans (hb.block k hk)⟩⟩
  · rcases hk with h | h
    · exact h
    · rw [h]; exact hb.size
  · have e' : some k = some w.heap.size := e
    injection e' with e'
    omega
theorem min_nat (a b c : Nat) (h : c = min a b) (W : World) : (Builtin.min_ #[3, 3] 3 #[.int .i64 (a : Int), .int .i64 (b : Int)]).run Try.prog W = .ok (.int .i64 (c : Int)) W := by
  rw [Lib.run_min_ints, show min (a : Int) (b : Int) = (c : Int) by omega]
theorem min_int (a : Int) (b : Nat) (c : Int) (h : c = min a (b : Int)) (W : World) : (Builtin.min_ #[3, 3] 3 #[.int .i64 a, .int .i64 (b : Int)]).run Try.prog W = .ok (.int .i64 c) W := by
  rw [Lib.run_min_ints, h]

set_option maxHeartbeats 16000000 in
theorem rcut_calls (ok : Nat → Prop) (x : Nat) (R : Rb) (nm : ByteArray) (n : Int) {k L : Nat} (w : World) (h : RDisk w ok x R) (hfresh : ∀ k, w.heap.size ≤ k → ok k) (hF : RFine k L R) (hk : k ≤ 1000000) (hL : L ≤ 140737488355328) :
    Calls Try.prog 36 #[fptr x, .string nm, .int .i64 n] w fun e w' => e = .returned (.int .i64 (rcutL R nm.data.toList n).1) ∧ RDisk w' ok x (rcutL R nm.data.toList n).2 ∧ Kp ok w w' := by
  have HM := Aside0.mk (rmay_calls ok x R w h hF.left)
  obtain ⟨s1, s2, s3, s4⟩ := rmay_same R
  have hF1 := hF.may
  obtain ⟨mb, mf, R1, hma⟩ : ∃ mb mf R1, rmayL R = (mb, mf, R1) := ⟨_, _, _, rfl⟩
  rw [hma] at HM s1 s2 s3 s4 hF1
  have HF1 := Aside0.mk (show RFine k L R1 from hF1)
  have HK := Aside0.mk (And.intro hk hL)
  have HFR := Aside0.mk hfresh
  have HS1 := Aside0.mk (show R1.dir = R.dir from s1)
  obtain ⟨WR, hWR⟩ : ∃ WR, WR = rcutL R nm.data.toList n := ⟨_, rfl⟩
  rw [← hWR]
  have HW := Aside0.mk (show WR = if mb = false then ((171 : Int), R1) else match findL R.dir nm.data.toList with | none => ((172 : Int), R1) | some f => (rcutR n) f R1 by rw [hWR]; unfold rcutL rcallL; rw [hma]; try rfl)
  clear hWR s1 s2 s3 s4 hma h hfresh hF hF1 hk hL
  cases mb with
  | false =>
    obtain ⟨at_, hat_⟩ : ∃ a, a = atI R1.dir nm.data.toList := ⟨_, rfl⟩
    have HAT := Aside0.mk hat_.symm
    clear hat_
    go_enter Try.func36, Try.ntmps36
    go_wp2_with fail
    refine HM.out.mono ?_
    rintro _ w1 ⟨rfl, hD1, hk1⟩
    obtain ⟨F, D, S, tg, h1⟩ := hD1
    obtain ⟨FA, fc, hF⟩ := h1.2.2.1.slice
    obtain ⟨DA, dc, hD⟩ := h1.2.2.2.1.slice
    subst hF hD
    obtain ⟨nf, hnf⟩ : ∃ n, n = R1.files.length := ⟨_, rfl⟩
    obtain ⟨nd, hnd⟩ : ∃ n, n = R1.dir.length := ⟨_, rfl⟩
    rw [← hnf, ← hnd] at h1
    have HN := Aside0.mk (And.intro hnf hnd)
    have c2 : w1.cell? ⟨x, 2, none⟩ = some (.slice DA nd dc) := h1.cell 2
    have H1 := Aside0.mk h1
    have HK1 := Aside0.mk hk1
    clear h1 hk1 HM hnf hnd
    have hfind := rfind_calls ok DA dc nd R1.dir nm w1 H1.out.2.2.2.1
    rw [HAT.out] at hfind
    go_wp2_with fail
    refine hfind.mono ?_
    rintro _ w2 ⟨rfl, hb2⟩
    have HB2 := Aside0.mk hb2
    clear hfind hb2 c2
    go_wp2_with fail
    go_ret
    exact ⟨by rw [HW.out]; rfl, ⟨_, _, _, _, by rw [HW.out]; exact (H1.out.below HB2.out)⟩, (HK1.out.trans (Kp.of_below HB2.out))⟩
  | true =>
    cases hf : findL R.dir nm.data.toList with
    | none =>
      rw [hf] at HW
      have HAT := Aside0.mk (show atI R1.dir nm.data.toList = -1 by unfold atI; rw [HS1.out, hf])
      clear hf
      go_enter Try.func36, Try.ntmps36
      go_wp2_with fail
      refine HM.out.mono ?_
      rintro _ w1 ⟨rfl, hD1, hk1⟩
      obtain ⟨F, D, S, tg, h1⟩ := hD1
      obtain ⟨FA, fc, hF⟩ := h1.2.2.1.slice
      obtain ⟨DA, dc, hD⟩ := h1.2.2.2.1.slice
      subst hF hD
      obtain ⟨nf, hnf⟩ : ∃ n, n = R1.files.length := ⟨_, rfl⟩
      obtain ⟨nd, hnd⟩ : ∃ n, n = R1.dir.length := ⟨_, rfl⟩
      rw [← hnf, ← hnd] at h1
      have HN := Aside0.mk (And.intro hnf hnd)
      have c2 : w1.cell? ⟨x, 2, none⟩ = some (.slice DA nd dc) := h1.cell 2
      have H1 := Aside0.mk h1
      have HK1 := Aside0.mk hk1
      clear h1 hk1 HM hnf hnd
      have hfind := rfind_calls ok DA dc nd R1.dir nm w1 H1.out.2.2.2.1
      rw [HAT.out] at hfind
      go_wp2_with fail
      refine hfind.mono ?_
      rintro _ w2 ⟨rfl, hb2⟩
      have HB2 := Aside0.mk hb2
      clear hfind hb2 c2
      go_wp2_with fail
      go_ret
      exact ⟨by rw [HW.out]; rfl, ⟨_, _, _, _, by rw [HW.out]; exact (H1.out.below HB2.out)⟩, (HK1.out.trans (Kp.of_below HB2.out))⟩
    | some i =>
      rw [hf] at HW
      have HAT := Aside0.mk (show atI R1.dir nm.data.toList = (i : Int) by unfold atI; rw [HS1.out, hf])
      have HIL := Aside0.mk (HF1.out.find (by rw [HS1.out]; exact hf))
      clear hf
      have hi0 : (0 : Int) ≤ (i : Int) := by omega
      have hi2 : decide ((i : Int) < 0) = false := decide_eq_false (by omega)
      by_cases hn0 : n < 0
      · have q1 : decide (n < 0) = true := decide_eq_true hn0
        have HW2 := Aside0.mk (show WR = (2, R1) by rw [HW.out]; show rcutR n i R1 = _; unfold rcutR; exact if_pos (Or.inl hn0))
        clear hn0
        go_enter Try.func36, Try.ntmps36
        go_wp2_with fail
        refine HM.out.mono ?_
        rintro _ w1 ⟨rfl, hD1, hk1⟩
        obtain ⟨F, D, S, tg, h1⟩ := hD1
        obtain ⟨FA, fc, hF⟩ := h1.2.2.1.slice
        obtain ⟨DA, dc, hD⟩ := h1.2.2.2.1.slice
        subst hF hD
        obtain ⟨nf, hnf⟩ : ∃ n, n = R1.files.length := ⟨_, rfl⟩
        obtain ⟨nd, hnd⟩ : ∃ n, n = R1.dir.length := ⟨_, rfl⟩
        rw [← hnf, ← hnd] at h1
        have HN := Aside0.mk (And.intro hnf hnd)
        have c2 : w1.cell? ⟨x, 2, none⟩ = some (.slice DA nd dc) := h1.cell 2
        have H1 := Aside0.mk h1
        have HK1 := Aside0.mk hk1
        clear h1 hk1 HM hnf hnd
        have hfind := rfind_calls ok DA dc nd R1.dir nm w1 H1.out.2.2.2.1
        rw [HAT.out] at hfind
        go_wp2_with fail
        refine hfind.mono ?_
        rintro _ w2 ⟨rfl, hb2⟩
        have HB2 := Aside0.mk hb2
        clear hfind hb2 c2
        go_wp2_with fail
        go_ret
        exact ⟨by rw [HW2.out]; rfl, ⟨_, _, _, _, by rw [HW2.out]; exact (H1.out.below HB2.out)⟩, (HK1.out.trans (Kp.of_below HB2.out))⟩
      · by_cases hn1 : n > ((fileR R1 i).1.length : Int)
        · have q1 : decide (n < 0) = false := decide_eq_false hn0
          have HW2 := Aside0.mk (show WR = (2, R1) by rw [HW.out]; show rcutR n i R1 = _; unfold rcutR; exact if_pos (Or.inr hn1))
          clear hn0
          go_enter Try.func36, Try.ntmps36
          go_wp2_with fail
          refine HM.out.mono ?_
          rintro _ w1 ⟨rfl, hD1, hk1⟩
          obtain ⟨F, D, S, tg, h1⟩ := hD1
          obtain ⟨FA, fc, hF⟩ := h1.2.2.1.slice
          obtain ⟨DA, dc, hD⟩ := h1.2.2.2.1.slice
          subst hF hD
          obtain ⟨nf, hnf⟩ : ∃ n, n = R1.files.length := ⟨_, rfl⟩
          obtain ⟨nd, hnd⟩ : ∃ n, n = R1.dir.length := ⟨_, rfl⟩
          rw [← hnf, ← hnd] at h1
          have HN := Aside0.mk (And.intro hnf hnd)
          have c2 : w1.cell? ⟨x, 2, none⟩ = some (.slice DA nd dc) := h1.cell 2
          have H1 := Aside0.mk h1
          have HK1 := Aside0.mk hk1
          clear h1 hk1 HM hnf hnd
          have hfind := rfind_calls ok DA dc nd R1.dir nm w1 H1.out.2.2.2.1
          rw [HAT.out] at hfind
          go_wp2_with fail
          refine hfind.mono ?_
          rintro _ w2 ⟨rfl, hb2⟩
          have HB2 := Aside0.mk hb2
          clear hfind hb2 c2
          have h2 := H1.out.below HB2.out
          have hk2 := HK1.out.trans (Kp.of_below HB2.out)
          obtain ⟨g, U, ul, uc, hA1, hgo, hnf, hul, hle, k1, k2, ⟨cur, hgh⟩, hbr⟩ := h2.file HIL.out
          subst hA1
          have hi1 : (i : Int) < (nf : Int) := by have := HIL.out; omega
          have c3 : w2.cell? ⟨x, 1, none⟩ = some (.slice (some ⟨g, 0, none⟩) nf fc) := h2.cell 1
          have HUL := Aside0.mk hul
          have q2 : decide ((ul : Int) < n) = true := decide_eq_true (by rw [hul]; exact hn1)
          have q3 : decide (n > (ul : Int)) = true := q2
          clear h2 hk2 hgh hbr hul hgo hnf hle k2 hn1
          go_wp2_with fail
          go_ret
          exact ⟨by rw [HW2.out]; rfl, ⟨_, _, _, _, by rw [HW2.out]; exact (H1.out.below HB2.out)⟩, (HK1.out.trans (Kp.of_below HB2.out))⟩
        · obtain ⟨m, rfl⟩ : ∃ m : Nat, n = (m : Int) := ⟨n.toNat, by omega⟩
          have q1 : decide ((m : Int) < 0) = false := decide_eq_false (by omega)
          have HW2 := Aside0.mk (show WR = (0, { R1 with files := R1.files.set i ((fileR R1 i).1.take m, min (fileR R1 i).2 m) }) by rw [HW.out]; show rcutR (m : Int) i R1 = _; unfold rcutR; exact if_neg (fun e => e.elim hn0 hn1))
          go_enter Try.func36, Try.ntmps36
          go_wp2_with fail
          refine HM.out.mono ?_
          rintro _ w1 ⟨rfl, hD1, hk1⟩
          obtain ⟨F, D, S, tg, h1⟩ := hD1
          obtain ⟨FA, fc, hF⟩ := h1.2.2.1.slice
          obtain ⟨DA, dc, hD⟩ := h1.2.2.2.1.slice
          subst hF hD
          obtain ⟨nf, hnf⟩ : ∃ n, n = R1.files.length := ⟨_, rfl⟩
          obtain ⟨nd, hnd⟩ : ∃ n, n = R1.dir.length := ⟨_, rfl⟩
          rw [← hnf, ← hnd] at h1
          have HN := Aside0.mk (And.intro hnf hnd)
          have c2 : w1.cell? ⟨x, 2, none⟩ = some (.slice DA nd dc) := h1.cell 2
          have H1 := Aside0.mk h1
          have HK1 := Aside0.mk hk1
          clear h1 hk1 HM hnf hnd
          have hfind := rfind_calls ok DA dc nd R1.dir nm w1 H1.out.2.2.2.1
          rw [HAT.out] at hfind
          go_wp2_with fail
          refine hfind.mono ?_
          rintro _ w2 ⟨rfl, hb2⟩
          have HB2 := Aside0.mk hb2
          clear hfind hb2 c2
          have h2 := H1.out.below HB2.out
          have hk2 := HK1.out.trans (Kp.of_below HB2.out)
          obtain ⟨g, U, ul, uc, hA1, hgo, hnf, hul, hle, k1, k2, ⟨cur, hgh⟩, hbr⟩ := h2.file HIL.out
          subst hA1
          have hi1 : (i : Int) < (nf : Int) := by have := HIL.out; omega
          have c3 : w2.cell? ⟨x, 1, none⟩ = some (.slice (some ⟨g, 0, none⟩) nf fc) := h2.cell 1
          have HUL := Aside0.mk hul
          have q2 : decide ((ul : Int) < (m : Int)) = false := decide_eq_false (by rw [hul]; omega)
          have q4 : ¬ (ul : Int) < (m : Int) := by rw [hul]; omega
          have hbd := below_drew (Below.refl w2.heap.size w2)
          have h3 := h2.below hbd
          have hk3 := hk2.trans (Kp.of_below hbd)
          have c4 : w2.drew.cell? ⟨x, 1, none⟩ = some (.slice (some ⟨g, 0, none⟩) nf fc) := h3.cell 1
          have k3 : w2.drew.cell? ⟨g, i * 2, none⟩ = some (.slice U ul uc) := pw_cell_below hbd k1
          have hbr' : BR w2.drew (fun k => ok k ∧ tg k = i) (.slice U ul uc) (fileR R1 i).1 := hbr.keep fun k cur _ hh => hbd.block k (Array.getElem?_eq_some_iff.1 hh).1
          rw [hul] at hbr'
          have hmle : m ≤ (fileR R1 i).1.length := by omega
          have hbt := hbr'.take m hmle
          have htl : ((fileR R1 i).1.take m).length = m := by rw [List.length_take]; omega
          have hst := hbt.src
          obtain ⟨V, vc, w4, hrun, hbr4, hb4⟩ := own_bytes hst (by rw [htl]; have := (HF1.out.len i).2; have := HK.out; omega)
          rw [htl] at hrun hbr4
          have hal := below_alloc (Below.refl w2.heap.size w2) (.cells #[] 5)
          have c5 : (w2.alloc (.cells #[] 5)).cell? ⟨x, 1, none⟩ = some (.slice (some ⟨g, 0, none⟩) nf fc) := pw_cell_below hal c3
          have k5 : (w2.alloc (.cells #[] 5)).cell? ⟨g, i * 2, none⟩ = some (.slice U ul uc) := pw_cell_below hal k1
          have c6 : w4.cell? ⟨x, 1, none⟩ = some (.slice (some ⟨g, 0, none⟩) nf fc) := pw_cell_below hb4 c4
          have k6 : w4.cell? ⟨g, i * 2, none⟩ = some (.slice U ul uc) := pw_cell_below hb4 k3
          have hg4 := (hb4.block g (Nat.lt_of_lt_of_le (Array.getElem?_eq_some_iff.1 hgh).1 hbd.size)).trans ((hbd.block g (Array.getElem?_eq_some_iff.1 hgh).1).trans hgh)
          have f6 : w4.frozen? ⟨g, i * 2, none⟩ = false := Lib.frozen_of_heap hg4 _
          obtain ⟨hE1, hE2⟩ := h3.bytes hb4 HIL.out (bs := (fileR R1 i).1.take m) (v := .slice V m vc) (hbr4.mono fun k hk _ => .inr hk) (fun k hk => HFR.out k (Nat.le_trans hk3.size hk))
          obtain ⟨w5, hw5⟩ : ∃ W, W = w4.setCell ⟨g, i * 2, none⟩ (.slice V m vc) := ⟨_, rfl⟩
          rw [← hw5] at hE1 hE2
          have HW5 := Aside0.mk hw5.symm
          have hbd5 := below_drew (Below.refl w5.heap.size w5)
          have h5 := hE1.below hbd5
          have hk5 := (hk3.trans hE2).trans (Kp.of_below hbd5)
          have hil5 : i < (R1.files.set i ((fileR R1 i).1.take m, (fileR R1 i).2)).length := by rw [List.length_set]; exact HIL.out
          obtain ⟨g', U', ul', uc', hA', -, -, -, -, r1, r2, ⟨cur', hgh'⟩, -⟩ := h5.file hil5
          injection hA' with hA'
          injection hA' with hA' _ _
          subst hA'
          have hf5 : fileR { R1 with files := R1.files.set i ((fileR R1 i).1.take m, (fileR R1 i).2) } i = ((fileR R1 i).1.take m, (fileR R1 i).2) := by rw [file_set, if_pos ⟨rfl, HIL.out⟩]
          rw [hf5] at r2
          have c7 : w5.drew.cell? ⟨x, 1, none⟩ = some (.slice (some ⟨g, 0, none⟩) nf fc) := h5.cell 1
          obtain ⟨sf, hsf⟩ : ∃ s, s = (fileR R1 i).2 := ⟨_, rfl⟩
          have r3 : w5.drew.cell? ⟨g, i * 2 + 1, none⟩ = some (.int .i64 (sf : Int)) := by rw [hsf]; exact r2
          have f7 : w5.drew.frozen? ⟨g, i * 2 + 1, none⟩ = false := Lib.frozen_of_heap hgh' _
          obtain ⟨mn, hmn⟩ : ∃ k, k = min sf m := ⟨_, rfl⟩
          have hmin := fun W => min_nat sf m mn hmn W
          have hmin2 : min (sf : Int) (m : Int) = (mn : Int) := by omega
          obtain ⟨hG1, hG2⟩ := h5.upto hil5 mn
          rw [hf5] at hG1
          have hset : ({ R1 with files := (R1.files.set i ((fileR R1 i).1.take m, (fileR R1 i).2)).set i ((fileR R1 i).1.take m, mn) } : Rb) = WR.2 := by
            rw [HW2.out, List.set_set, hmn, hsf]
          have HE := Aside0.mk (And.intro (show RDisk (w5.drew.setCell ⟨g, i * 2 + 1, none⟩ (.int .i64 (mn : Int))) ok x WR.2 from ⟨_, _, _, _, by rw [← hset]; exact hG1⟩) (hk5.trans hG2))
          have HRUN := Aside0.mk hrun
          have v1 : m ≤ uc := by omega
          have v2 : (m : Int) ≤ (uc : Int) := by omega
          have v3 : (0 : Int) ≤ (m : Int) := by omega
          clear h2 hk2 hgh hbr hul hgo hnf hle k2 h3 hk3 hbr' hmle hbt htl hst hrun hbr4 hb4 hal hg4 hE1 hE2 hw5 h5 hk5 hil5 hgh' hf5 r1 r2 hsf hmn hG1 hG2 hset hbd hbd5 hn1 hn0
          go_wp2_with fail
          go_region_law (refine step_append_run rfl _ _ 29 rfl _ _ _ _ rfl rfl HRUN.out ?_)
          all_goals
            go_wp2_with fail
            change Code.wp _ _ _ _ (w4.setCell ⟨g, i * 2, none⟩ (.slice V m vc))
            rw [HW5.out]
            go_wp2_with fail
            go_region
            all_goals
              go_wp2_with fail
              go_ret
              exact ⟨by rw [HW2.out]; rfl, HE.out.1, HE.out.2⟩

end Go.Proofs.Ytgpinkgfgkolfaa.PD

namespace Go.Proofs.Ytgpinkgfgkolfaa.PD
open Go.RowKit Go.Proofs.YtgpinkgfgkolfaaW.PrintWords Go.Proofs.YtgpinkgfgkolfaaW.PrintLast Go.Proofs.YtgpinkgfgkolfaaW.PrintMore
set_option linter.unusedVariables false
set_option linter.unusedSimpArgs false
set_option maxHeartbeats 4000000
set_option maxRecDepth 100000

open Go.Proofs
def crashTo (keep : Int) (i : Nat) (fs : List (List UInt8 × Nat)) : List (List UInt8 × Nat) := (fs.take i).map (rcrashF keep) ++ fs.drop i
theorem crashTo_len (keep : Int) (i : Nat) (fs : List (List UInt8 × Nat)) : (crashTo keep i fs).length = fs.length := by
  unfold crashTo
  rw [List.length_append, List.length_map, List.length_take, List.length_drop]; omega
theorem crashTo_zero (keep : Int) (fs : List (List UInt8 × Nat)) : crashTo keep 0 fs = fs := rfl
theorem crashTo_all (keep : Int) (fs : List (List UInt8 × Nat)) (n : Nat) (h : fs.length ≤ n) : crashTo keep n fs = fs.map (rcrashF keep) := by
  unfold crashTo
  rw [List.take_of_length_le h, List.drop_eq_nil_iff.2 h, List.append_nil]
theorem crashTo_at (keep : Int) (i : Nat) (fs : List (List UInt8 × Nat)) : (crashTo keep i fs)[i]? = fs[i]? := by
  unfold crashTo
  by_cases h : i < fs.length
  · rw [List.getElem?_append_right (by rw [List.length_map, List.length_take]; omega), List.length_map, List.length_take, List.getElem?_drop]
    congr 1; omega
  · rw [List.getElem?_eq_none (by have := crashTo_len keep i fs; unfold crashTo at this; omega), List.getElem?_eq_none (by omega)]
theorem crashTo_succ (keep : Int) (i : Nat) (fs : List (List UInt8 × Nat)) (x : List UInt8 × Nat) (h : fs[i]? = some x) : crashTo keep (i + 1) fs = (crashTo keep i fs).set i (rcrashF keep x) := by
  obtain ⟨h1, h2⟩ := List.getElem?_eq_some_iff.1 h
  unfold crashTo
  have hl : ((fs.take i).map (rcrashF keep)).length = i := by rw [List.length_map, List.length_take]; omega
  rw [List.set_append_right _ _ (by omega), hl, Nat.sub_self, List.drop_eq_getElem_cons h1, List.set_cons_zero, ← List.take_append_getElem h1, h2, List.map_append]
  simp
def crR (R : Rb) (keep : Int) (i : Nat) : Rb := { R with files := crashTo keep i R.files }
theorem crR_file (R : Rb) (keep : Int) (i : Nat) : fileR (crR R keep i) i = fileR R i := by
  unfold fileR crR
  show (crashTo keep i R.files).getD i ([], 0) = _
  rw [List.getD_eq_getElem?_getD, crashTo_at, List.getD_eq_getElem?_getD]
set_option maxHeartbeats 16000000 in
theorem rcrash_calls (ok : Nat → Prop) (x : Nat) (R : Rb) (keep : Int) {k L : Nat} (w : World) (h : RDisk w ok x R) (hfresh : ∀ k, w.heap.size ≤ k → ok k) (hF : RFine k L R) (hk : k ≤ 1000000) (hL : L ≤ 140737488355328) :
    Calls Try.prog 41 #[fptr x, .int .i64 keep] w fun e w' => e = .returned (.tuple #[]) ∧ RDisk w' ok x (rcrashL R keep) ∧ Kp ok w w' := by
  obtain ⟨F, D, S, tg, h⟩ := h
  obtain ⟨FA, fc, hFs⟩ := h.2.2.1.slice
  obtain ⟨SA, sc, hS⟩ := h.2.2.2.2.slice
  subst hFs hS
  obtain ⟨nf, hnf⟩ : ∃ n, n = R.files.length := ⟨_, rfl⟩
  obtain ⟨ns, hns⟩ : ∃ n, n = R.safe.length := ⟨_, rfl⟩
  rw [← hnf, ← hns] at h
  have HN := Aside0.mk (And.intro hnf (And.intro hns (And.intro hk hL)))
  have HF := Aside0.mk hF
  have HFR := Aside0.mk hfresh
  have c1 : w.cell? ⟨x, 1, none⟩ = some (.slice FA nf fc) := h.cell 1
  have H := Aside0.mk (show RB w ok x (.slice FA nf fc) D (.slice SA ns sc) tg (crR R keep 0) from h)
  clear h hF hk hL hfresh hnf hns
  go_enter Try.func41, Try.ntmps41
  go_wp2_with fail
  clear c1
  go_loopw [11] (fun v wr => ∃ (i : Nat) (tg : Nat → Nat), v = .int .i64 (i : Int) ∧ Aside0 (i ≤ nf) ∧ Aside0 (RB wr ok x (.slice FA nf fc) D (.slice SA ns sc) tg (crR R keep i)) ∧ Aside0 (Kp ok w wr)) (fun v _ => nf - (intOf v).toNat)
  case atStart => exact ⟨0, tg, rfl, Aside0.mk (Nat.zero_le _), H, Aside0.mk (Kp.refl _ _)⟩
  case round =>
    clear H tg
    obtain ⟨i, tg, rfl, HI, H, HK⟩ := hrel
    by_cases hin : i < nf
    · have d1 : decide ((i : Int) < (nf : Int)) = true := decide_eq_true (by omega)
      have hi1 : (i : Int) < (nf : Int) := by omega
      have hi0 : (0 : Int) ≤ (i : Int) := by omega
      have hwi : wrap64 ((i : Int) + 1) = ((i + 1 : Nat) : Int) := by have := HN.out; have := HF.out.files; unfold wrap64; omega
      have HIN := Aside0.mk hin
      have hil : i < (crR R keep i).files.length := by show i < (crashTo keep i R.files).length; rw [crashTo_len]; have := HN.out; omega
      have HIL := Aside0.mk hil
      obtain ⟨g, U, ul, uc, hA1, hgo, -, hul, hle, k1, k2, ⟨cur, hgh⟩, hbr⟩ := H.out.file hil
      subst hA1
      rw [crR_file] at hul k2 hbr
      have c1 : wr.cell? ⟨x, 1, none⟩ = some (.slice (some ⟨g, 0, none⟩) nf fc) := H.out.cell 1
      obtain ⟨sf, hsf⟩ : ∃ s, s = (fileR R i).2 := ⟨_, rfl⟩
      rw [← hsf] at k2
      obtain ⟨n, hn⟩ : ∃ n, n = rcrashN keep (fileR R i) := ⟨_, rfl⟩
      have hfi := HF.out.len i
      have hnle : n ≤ ul := by
        rw [hn, hul]
        have := crashN_le keep _ hfi.1
        have e := crash_same keep _ hfi.1
        have e2 : rcrashN keep (fileR R i) = crashN keep (fileR R i) := by
          have := congrArg Prod.snd e
          exact this
        omega
      have hbt : BR wr (fun k => (ok k ∧ tg k = i ∧ k < wr.heap.size) ∨ wr.heap.size ≤ k) (.slice U n uc) ((fileR R i).1.take n) := by
        rw [hul] at hbr
        exact (hbr.take n (by omega)).mono fun k hk hl => .inl ⟨hk.1, hk.2, hl⟩
      have HBT := Aside0.mk hbt
      have HUL := Aside0.mk (And.intro hul (And.intro hsf (And.intro hn (And.intro hnle hle))))
      have f1 : wr.frozen? ⟨g, i * 2, none⟩ = false := Lib.frozen_of_heap hgh _
      have f1b : wr.frozen? ⟨g, i * 2 + 1, none⟩ = false := Lib.frozen_of_heap hgh _
      have HGH := Aside0.mk hgh
      have HFI := Aside0.mk hfi
      have HFX := Aside0.mk (crashTo_succ keep i R.files (fileR R i) (by unfold fileR; rw [List.getD_eq_getElem?_getD, List.getElem?_eq_getElem (show i < R.files.length by have := HN.out; omega)]; rfl))
      have v1 : n ≤ uc := by omega
      have v2 : (n : Int) ≤ (uc : Int) := by omega
      have v3 : (0 : Int) ≤ (n : Int) := by omega
      clear hin hil hul hle hgh hbr hsf hfi hbt hgo hnle
      by_cases hkeep : keep > 0
      · have q1 : decide (keep > 0) = true := decide_eq_true hkeep
        have q2 : decide (0 < keep) = true := q1
        obtain ⟨mk, hmk⟩ : ∃ m : Nat, (m : Int) = min keep (ul : Int) := ⟨(min keep (ul : Int)).toNat, by omega⟩
        have hm1 := fun W => min_int keep ul (mk : Int) hmk W
        have hsum : wrap64 ((sf : Int) + (mk : Int)) = ((sf + mk : Nat) : Int) := by have := HUL.out; have := HFI.out; have := HN.out; unfold wrap64; omega
        obtain ⟨su, hsu⟩ : ∃ s, s = sf + mk := ⟨_, rfl⟩
        rw [← hsu] at hsum
        have hm2 := fun W => min_nat ul su n (by rw [hn]; unfold rcrashN; rw [if_pos hkeep]; have := HUL.out; rw [hsu]; omega) W
        have e1 : min keep (ul : Int) = (mk : Int) := hmk.symm
        have e2 : min (ul : Int) (su : Int) = (n : Int) := by rw [hn]; unfold rcrashN; rw [if_pos hkeep]; have := HUL.out; rw [hsu]; omega
        clear hkeep hmk hn hsu
        have cc1 : wr.drew.cell? ⟨x, 1, none⟩ = some (.slice (some ⟨g, 0, none⟩) nf fc) := pw_cell_below (below_drew (Below.refl wr.heap.size wr)) c1
        have kk1 : wr.drew.cell? ⟨g, i * 2, none⟩ = some (.slice U ul uc) := pw_cell_below (below_drew (Below.refl wr.heap.size wr)) k1
        go_wp2_with fail
        go_region
        all_goals
          go_wp2_with fail
          have hbd := below_drew (Below.refl wr.drew.heap.size wr.drew)
          have hb0 : Below wr.heap.size wr wr.drew.drew := (below_drew (Below.refl wr.heap.size wr)).trans (hbd.mono (Nat.le_refl _))
          have h2 := H.out.below hb0
          have k3 : wr.drew.drew.cell? ⟨g, i * 2, none⟩ = some (.slice U ul uc) := pw_cell_below hb0 k1
          have c3 : wr.drew.drew.cell? ⟨x, 1, none⟩ = some (.slice (some ⟨g, 0, none⟩) nf fc) := pw_cell_below hb0 c1
          have hg2 := (hb0.block g (Array.getElem?_eq_some_iff.1 HGH.out).1).trans HGH.out
          have f2 : wr.drew.drew.frozen? ⟨g, i * 2, none⟩ = false := Lib.frozen_of_heap hg2 _
          have hbt2 : BR wr.drew.drew (fun k => (ok k ∧ tg k = i ∧ k < wr.drew.drew.heap.size) ∨ wr.drew.drew.heap.size ≤ k) (.slice U n uc) ((fileR R i).1.take n) := (HBT.out.keep fun k cur _ hh => hb0.block k (Array.getElem?_eq_some_iff.1 hh).1).mono fun k hk hl => by
            rcases hk with hk | hk
            · exact .inl ⟨hk.1, hk.2.1, hl⟩
            · exact .inr (by have : wr.drew.drew.heap.size = wr.heap.size := by simp
                             omega)
          obtain ⟨hE1, hE2⟩ := h2.bytes (Below.refl _ _) HIL.out hbt2 (fun k hk => HFR.out k (Nat.le_trans HK.out.size (Nat.le_trans hb0.size hk)))
          have hil5 : i < ((crR R keep i).files.set i ((fileR R i).1.take n, (fileR (crR R keep i) i).2)).length := by rw [List.length_set]; exact HIL.out
          obtain ⟨g', U', ul', uc', hA', -, -, -, -, r1, r2, ⟨cur', hgh'⟩, -⟩ := hE1.file hil5
          injection hA' with hA'
          injection hA' with hA' _ _
          subst hA'
          obtain ⟨hG1, hG2⟩ := hE1.upto hil5 n
          have hset : ({ (crR R keep i) with files := ((crR R keep i).files.set i ((fileR R i).1.take n, (fileR (crR R keep i) i).2)).set i ((fileR { (crR R keep i) with files := (crR R keep i).files.set i ((fileR R i).1.take n, (fileR (crR R keep i) i).2) } i).1, n) } : Rb) = crR R keep (i + 1) := by
            rw [file_set, if_pos ⟨rfl, HIL.out⟩, List.set_set]
            show ({ R with files := (crashTo keep i R.files).set i ((fileR R i).1.take n, n) } : Rb) = { R with files := crashTo keep (i + 1) R.files }
            rw [HFX.out, HUL.out.2.2.1]; rfl
          have HE := Aside0.mk (And.intro (show RB ((wr.drew.drew.setCell ⟨g, i * 2, none⟩ (.slice U n uc)).setCell ⟨g, i * 2 + 1, none⟩ (.int .i64 (n : Int))) ok x (.slice (some ⟨g, 0, none⟩) nf fc) D (.slice SA ns sc) _ (crR R keep (i + 1)) from by rw [← hset]; exact hG1) (((HK.out.trans (Kp.of_below hb0)).trans hE2).trans hG2))
          clear h2 hb0 hbd hg2 hbt2 hE1 hE2 hil5 r1 r2 hgh' hG1 hG2 hset
          go_region
          all_goals
            go_wp2_with fail
            go_roundw
            case rel => exact ⟨i + 1, _, by first | rw [hwi] | rfl, Aside0.mk HIN.out, Aside0.mk HE.out.1, Aside0.mk HE.out.2⟩
            case measure => first | (rw [hwi]; simp [intOf]; have := HIN.out; omega) | (simp [intOf]; have := HIN.out; omega)
      · have q1 : decide (keep > 0) = false := decide_eq_false hkeep
        have q2 : decide (0 < keep) = false := q1
        have hsn : n = sf := by rw [hn]; unfold rcrashN; rw [if_neg hkeep]; exact HUL.out.2.1.symm
        subst hsn
        clear hkeep hn
        go_wp2_with fail
        have hbd := below_drew (Below.refl wr.heap.size wr)
        have hb0 : Below wr.heap.size wr wr.drew := hbd
        have h2 := H.out.below hb0
        have k3 : wr.drew.cell? ⟨g, i * 2, none⟩ = some (.slice U ul uc) := pw_cell_below hb0 k1
        have c3 : wr.drew.cell? ⟨x, 1, none⟩ = some (.slice (some ⟨g, 0, none⟩) nf fc) := pw_cell_below hb0 c1
        have hg2 := (hb0.block g (Array.getElem?_eq_some_iff.1 HGH.out).1).trans HGH.out
        have f2 : wr.drew.frozen? ⟨g, i * 2, none⟩ = false := Lib.frozen_of_heap hg2 _
        have hbt2 : BR wr.drew (fun k => (ok k ∧ tg k = i ∧ k < wr.drew.heap.size) ∨ wr.drew.heap.size ≤ k) (.slice U n uc) ((fileR R i).1.take n) := (HBT.out.keep fun k cur _ hh => hb0.block k (Array.getElem?_eq_some_iff.1 hh).1).mono fun k hk hl => by
          rcases hk with hk | hk
          · exact .inl ⟨hk.1, hk.2.1, hl⟩
          · exact .inr (by have : wr.drew.heap.size = wr.heap.size := by simp
                           omega)
        obtain ⟨hE1, hE2⟩ := h2.bytes (Below.refl _ _) HIL.out hbt2 (fun k hk => HFR.out k (Nat.le_trans HK.out.size (Nat.le_trans hb0.size hk)))
        have hil5 : i < ((crR R keep i).files.set i ((fileR R i).1.take n, (fileR (crR R keep i) i).2)).length := by rw [List.length_set]; exact HIL.out
        obtain ⟨g', U', ul', uc', hA', -, -, -, -, r1, r2, ⟨cur', hgh'⟩, -⟩ := hE1.file hil5
        injection hA' with hA'
        injection hA' with hA' _ _
        subst hA'
        obtain ⟨hG1, hG2⟩ := hE1.upto hil5 n
        have hset : ({ (crR R keep i) with files := ((crR R keep i).files.set i ((fileR R i).1.take n, (fileR (crR R keep i) i).2)).set i ((fileR { (crR R keep i) with files := (crR R keep i).files.set i ((fileR R i).1.take n, (fileR (crR R keep i) i).2) } i).1, n) } : Rb) = crR R keep (i + 1) := by
          rw [file_set, if_pos ⟨rfl, HIL.out⟩, List.set_set]
          show ({ R with files := (crashTo keep i R.files).set i ((fileR R i).1.take n, n) } : Rb) = { R with files := crashTo keep (i + 1) R.files }
          rw [HFX.out, HUL.out.2.2.1]; rfl
        have HE := Aside0.mk (And.intro (show RB ((wr.drew.setCell ⟨g, i * 2, none⟩ (.slice U n uc)).setCell ⟨g, i * 2 + 1, none⟩ (.int .i64 (n : Int))) ok x (.slice (some ⟨g, 0, none⟩) nf fc) D (.slice SA ns sc) _ (crR R keep (i + 1)) from by rw [← hset]; exact hG1) (((HK.out.trans (Kp.of_below hb0)).trans hE2).trans hG2))
        clear h2 hb0 hbd hg2 hbt2 hE1 hE2 hil5 r1 r2 hgh' hG1 hG2 hset
        go_region
        all_goals
          go_wp2_with fail
          go_roundw
          case rel => exact ⟨i + 1, _, by first | rw [hwi] | rfl, Aside0.mk HIN.out, Aside0.mk HE.out.1, Aside0.mk HE.out.2⟩
          case measure => first | (rw [hwi]; simp [intOf]; have := HIN.out; omega) | (simp [intOf]; have := HIN.out; omega)
    · have d1 : decide ((i : Int) < (nf : Int)) = false := decide_eq_false (by omega)
      have hi1 : ¬ ((i : Int) < (nf : Int)) := by omega
      have c3 : wr.cell? ⟨x, 3, none⟩ = some (.slice SA ns sc) := H.out.cell 3
      have HE0 := Aside0.mk (show (crR R keep i).files = R.files.map (rcrashF keep) from crashTo_all keep R.files i (by have := HN.out; omega))
      obtain ⟨A1, c1', w2, hrun, hL, hb2⟩ := own_links H.out.2.2.2.2 (by have := HF.out.safe; have := HN.out; show R.safe.length ≤ _; omega)
      have hnew := below_alloc (Below.refl wr.heap.size wr) (.cells #[] 53)
      have c4 : (wr.alloc (.cells #[] 53)).cell? ⟨x, 3, none⟩ = some (.slice SA ns sc) := pw_cell_below hnew c3
      obtain ⟨DA, dc, hDs⟩ := H.out.2.2.2.1.slice
      subst hDs
      obtain ⟨nd, hnd⟩ : ∃ n, n = (crR R keep i).dir.length := ⟨_, rfl⟩
      rw [← hnd] at H
      have hx2 := (hb2.block x H.out.lt).trans H.out.2.1
      have c5 : w2.cell? ⟨x, 2, none⟩ = some (.slice DA nd dc) := by simp [World.cell?, hx2, rcellsD]
      have f5 : w2.frozen? ⟨x, 2, none⟩ = false := Lib.frozen_of_heap hx2 2
      obtain ⟨hE1, hE2⟩ := H.out.dir hb2 hL (fun k hk => HFR.out k (Nat.le_trans HK.out.size hk))
      have c6 : w2.cell? ⟨x, 4, none⟩ = some (.bool R.fl) := by simp [World.cell?, hx2, rcellsD, crR]
      have f6 : w2.frozen? ⟨x, 4, none⟩ = false := Lib.frozen_of_heap hx2 4
      have c7 : w2.cell? ⟨x, 6, none⟩ = some (.bool R.torn) := by simp [World.cell?, hx2, rcellsD, crR]
      have f7 : w2.frozen? ⟨x, 6, none⟩ = false := Lib.frozen_of_heap hx2 6
      have HT := Aside0.mk (show RB (((w2.setCell ⟨x, 2, none⟩ (.slice A1 ns c1')).setCell ⟨x, 4, none⟩ (.bool false)).setCell ⟨x, 6, none⟩ (.bool false)) ok x (.slice FA nf fc) (.slice A1 ns c1') (.slice SA ns sc) tg (rcrashL R keep) from hE1.turn (by rw [show (rcrashL R keep).files = R.files.map (rcrashF keep) from rfl, ← HE0.out]) rfl rfl (heap_put (heap_put hE1.2.1 _ (by rfl)) _ (by rfl)) (fun k _ hk => (Below.heap_setCell _ _ _ k hk).trans (Below.heap_setCell _ _ _ k hk)))
      have HKE := Aside0.mk (show Kp ok w (((w2.setCell ⟨x, 2, none⟩ (.slice A1 ns c1')).setCell ⟨x, 4, none⟩ (.bool false)).setCell ⟨x, 6, none⟩ (.bool false)) from (((HK.out.trans hE2)).setCell (p := ⟨x, 4, none⟩) hE1.1 _).setCell (p := ⟨x, 6, none⟩) hE1.1 _)
      have HRUN := Aside0.mk hrun
      clear hin hrun hL hb2 hnew hx2 hE1 hE2 hnd
      go_wp2_with (at_builtin; refine wpList_append_run rfl _ _ 46 rfl _ _ _ _ rfl rfl HRUN.out ?_)
      go_end0
      exact ⟨rfl, ⟨_, _, _, _, HT.out⟩, HKE.out⟩

end Go.Proofs.Ytgpinkgfgkolfaa.PD
