/- Disk.Write walked. -/
import Derived.Test.YtgpinkgfgkolfaaLay
import Derived.Test.YtgpinkgfgkolfaaFree
import Derived.Lib.Strings
namespace Go.Proofs.Ytgpinkgfgkolfaa.PD
open Go.RowKit Go.Proofs.YtgpinkgfgkolfaaW.PrintWords Go.Proofs.YtgpinkgfgkolfaaW.PrintLast Go.Proofs.YtgpinkgfgkolfaaW.PrintMore
set_option linter.unusedVariables false
set_option linter.unusedSimpArgs false
set_option maxHeartbeats 4000000
set_option maxRecDepth 100000

open Go.Proofs
theorem mayL_same (A : Ab) : (mayL A).2.2.dir = A.dir ∧ (mayL A).2.2.safe = A.safe ∧ (mayL A).2.2.fs = A.fs ∧ (mayL A).2.2.room = A.room := by
  unfold mayL
  split
  · exact ⟨rfl, rfl, rfl, rfl⟩
  · split <;> exact ⟨rfl, rfl, rfl, rfl⟩
theorem freeL_same {A A' : Ab} (h1 : A'.dir = A.dir) (h2 : A'.safe = A.safe) (h3 : A'.fs = A.fs) (h4 : A'.room = A.room) : freeL A' = freeL A := by
  cases A; cases A'
  subst h1 h2 h3 h4
  rfl
theorem SrcAt.slice {w : World} {x : Value} {xs : List UInt8} (h : SrcAt w x xs) : ∃ A c, x = .slice A xs.length c ∧ xs.length ≤ c := by
  rcases h with ⟨h1, h2⟩ | ⟨a, c, h1, h2, _⟩
  · exact ⟨none, 0, by rw [h1, h2]; rfl, by rw [h2]; exact Nat.le_refl _⟩
  · exact ⟨_, c, h1, h2⟩
theorem SrcAt.take {w : World} {A : Option Addr} {c : Nat} {xs : List UInt8} (h : SrcAt w (.slice A xs.length c) xs) (n : Nat) (hn : n ≤ xs.length) : SrcAt w (.slice A n c) (xs.take n) := by
  have hl : (xs.take n).length = n := by rw [List.length_take]; omega
  rcases h with ⟨h1, h2⟩ | ⟨a, c', h1, h2, h3⟩
  · subst h2
    injection h1 with e1 e2 e3
    left
    simp only [List.length_nil] at hn
    obtain rfl : n = 0 := by omega
    exact ⟨by rw [e1, e3], by simp⟩
  · injection h1 with e1 e2 e3
    right
    refine ⟨a, c', by rw [e1, e3, hl], by omega, fun j u hu => h3 j u ?_⟩
    unfold bcells at hu ⊢
    rw [List.map_take, List.getElem?_take] at hu
    split at hu
    · exact hu
    · cases hu
/-- Write. -/
noncomputable def writeL (A : Ab) (nm : Nm) (b : List UInt8) (fN : Nat) : Int × Ab :=
  if (mayL A).1 = false then
    (171, if (mayL A).2.1 = true ∧ nm ≠ [] ∧ 1 < b.length ∧ (b.length : Int) ≤ wrap64 (freeL A) then layL (mayL A).2.2 nm (b.take (b.length / 2)) fN else (mayL A).2.2)
  else if nm = [] then (2, (mayL A).2.2) else if (b.length : Int) > wrap64 (freeL A) then (170, (mayL A).2.2) else (0, layL (mayL A).2.2 nm b fN)
set_option maxHeartbeats 16000000 in
theorem write_calls (ok : Nat → Prop) (d : Nat) (A : Ab) (nm : ByteArray) (x : Value) (xs : List UInt8) (w : World) (h : DiskAt w ok d A) (hfresh : ∀ k, w.heap.size ≤ k → ok k) (hnm : nm.size ≤ maxLen) (hdl : A.dir.length * 8 ≤ 140737488351232)
    (hroom : wrap64 A.room = A.room) (hleft : -9223372036854775808 ≤ A.left ∧ A.left ≤ 9223372036854775807)
    (hs : ∀ W, Kp ok w W → SrcAt W x xs) (hlen : ∀ f, findL A.dir nm.data.toList = some f → (A.fs f).1.length + xs.length ≤ 140737488355328) (hxl : xs.length ≤ 140737488355328) :
    Calls Try.prog 9 #[fptr d, .string nm, x] w fun e w' => ∃ fN, w.heap.size ≤ fN ∧ e = .returned (.int .i64 (writeL A nm.data.toList xs fN).1) ∧ DiskAt w' ok d (writeL A nm.data.toList xs fN).2 ∧ Kp ok w w' := by
  have HM := Aside0.mk (may_calls ok d A w h hleft)
  obtain ⟨s1, s2, s3, s4⟩ := mayL_same A
  obtain ⟨mb, mf, A1, hma⟩ : ∃ mb mf A1, mayL A = (mb, mf, A1) := ⟨_, _, _, rfl⟩
  have HFR := Aside0.mk (fun W hW => free_calls ok d A1 W hW (by rw [hma] at s4; show wrap64 A1.room = A1.room; rw [s4]; exact hroom) (by rw [hma] at s1; show A1.dir.length * 8 ≤ _; rw [s1]; exact hdl))
  have hfr : freeL A1 = freeL A := by rw [hma] at s1 s2 s3 s4; exact freeL_same s1 s2 s3 s4
  rw [hfr] at HFR
  rw [hma] at HM s1 s3
  have s1' : A1.dir = A.dir := s1
  have s3' : A1.fs = A.fs := s3
  obtain ⟨Ax, cx, rfl, hcx⟩ := (hs w (Kp.refl _ _)).slice
  have HLY := Aside0.mk (fun (W : World) (hW : DiskAt W ok d A1) (hk : Kp ok w W) => lay_calls ok d A1 nm (.slice Ax xs.length cx) xs W hW (fun k hk' => hfresh k (by have := hk.size; omega)) hnm (by rw [s1']; unfold maxLen; omega)
    (fun W' hW' => hs W' (hk.trans hW')) (fun f hf => by rw [s1'] at hf; rw [s3']; exact hlen f hf) hxl)
  have HLT := Aside0.mk (fun (W : World) (hW : DiskAt W ok d A1) (hk : Kp ok w W) => lay_calls ok d A1 nm (.slice Ax (xs.length / 2) cx) (xs.take (xs.length / 2)) W hW (fun k hk' => hfresh k (by have := hk.size; omega)) hnm (by rw [s1']; unfold maxLen; omega)
    (fun W' hW' => (hs W' (hk.trans hW')).take _ (Nat.div_le_self _ _)) (fun f hf => by rw [s1'] at hf; rw [s3', List.length_take]; have := hlen f hf; omega) (by rw [List.length_take]; omega))
  obtain ⟨WR, hWR⟩ : ∃ WR, WR = writeL A nm.data.toList xs := ⟨_, rfl⟩
  rw [← hWR]
  have HW := Aside0.mk (fun fN => show WR fN = if mb = false then
    (171, if mf = true ∧ nm.data.toList ≠ [] ∧ 1 < xs.length ∧ (xs.length : Int) ≤ wrap64 (freeL A) then layL A1 nm.data.toList (xs.take (xs.length / 2)) fN else A1)
  else if nm.data.toList = [] then (2, A1) else if (xs.length : Int) > wrap64 (freeL A) then (170, A1) else (0, layL A1 nm.data.toList xs fN) by rw [hWR]; unfold writeL; rw [hma])
  have het : nm.toList = nm.data.toList := Lib.toList_data nm
  clear hWR s1 s1' s2 s3 s3' s4 hma hfr h hfresh hnm hdl hroom hleft hs hlen
  generalize wrap64 (freeL A) = fr at *
  have HCX := Aside0.mk hcx
  have HN := Aside0.mk hxl
  clear hcx hxl
  obtain ⟨n, hn⟩ : ∃ n, n = xs.length := ⟨_, rfl⟩
  rw [← hn] at HLY HLT HW HCX HN
  rw [← hn]
  clear hn
  by_cases hnm0 : nm.data.toList = []
  · have e1 : nm.toList.isEmpty = true := by rw [het, hnm0]; rfl
    have e2 : (nm.toList == []) = true := by rw [het, hnm0]; rfl
    have e3 : (nm.toList != []) = false := by rw [het, hnm0]; rfl
    cases mb with
    | false =>
      simp only [hnm0, ne_eq, not_true_eq_false, false_and, and_false, if_false, if_true] at HW
      clear HFR HLY HLT het
      cases mf
      all_goals
        go_enter Try.func9, Try.ntmps9
        go_wp2_with fail
        refine HM.out.mono ?_
        rintro _ w1 ⟨rfl, hD1, hk1⟩
        have HD1 := Aside0.mk hD1
        have HK1 := Aside0.mk hk1
        clear hD1 hk1 HM
        go_wp2_with fail
        go_ret
        exact ⟨w.heap.size, Nat.le_refl _, by rw [HW.out w.heap.size]; rfl, by rw [HW.out w.heap.size]; exact HD1.out, HK1.out⟩
    | true =>
      simp only [hnm0, Bool.true_eq_false, if_false, if_true] at HW
      clear HFR HLY HLT het
      cases mf
      all_goals
        go_enter Try.func9, Try.ntmps9
        go_wp2_with fail
        refine HM.out.mono ?_
        rintro _ w1 ⟨rfl, hD1, hk1⟩
        have HD1 := Aside0.mk hD1
        have HK1 := Aside0.mk hk1
        clear hD1 hk1 HM
        go_wp2_with fail
        go_ret
        exact ⟨w.heap.size, Nat.le_refl _, by rw [HW.out w.heap.size]; rfl, by rw [HW.out w.heap.size]; exact HD1.out, HK1.out⟩
  · have e1 : nm.toList.isEmpty = false := by rw [het]; cases h : nm.data.toList with | nil => exact absurd h hnm0 | cons => rfl
    have e2 : (nm.toList == []) = false := by rw [het]; exact beq_eq_false_iff_ne.2 hnm0
    have e3 : (nm.toList != []) = true := by rw [het]; exact bne_iff_ne.2 hnm0
    cases mb with
    | false =>
      cases mf with
      | false =>
        simp only [Bool.false_eq_true, false_and, if_false, if_true] at HW
        clear HFR HLY HLT het hnm0
        go_enter Try.func9, Try.ntmps9
        go_wp2_with fail
        refine HM.out.mono ?_
        rintro _ w1 ⟨rfl, hD1, hk1⟩
        have HD1 := Aside0.mk hD1
        have HK1 := Aside0.mk hk1
        clear hD1 hk1 HM
        go_wp2_with fail
        go_ret
        exact ⟨w.heap.size, Nat.le_refl _, by rw [HW.out w.heap.size]; rfl, by rw [HW.out w.heap.size]; exact HD1.out, HK1.out⟩
      | true =>
        by_cases h1 : 1 < n
        · have q1 : decide (1 < n) = true := decide_eq_true h1
          have q2 : decide ((1 : Int) < (n : Int)) = true := decide_eq_true (by omega)
          by_cases h2 : (n : Int) ≤ fr
          · have q3 : decide ((n : Int) ≤ fr) = true := decide_eq_true h2
            simp only [true_and, if_true, hnm0, ne_eq, not_false_eq_true, h1, h2, and_self] at HW
            obtain ⟨k, hk⟩ : ∃ k, k = n / 2 := ⟨_, rfl⟩
            have v1 : (n : Int) / 2 = (k : Int) := by omega
            have v0 : Int.tdiv (n : Int) 2 = (k : Int) := by rw [Int.tdiv_eq_ediv_of_nonneg (by omega)]; exact v1
            have v4 : wrap64 (k : Int) = (k : Int) := by have := HN.out; unfold wrap64; omega
            have v2 : (k ≤ cx) = True := eq_true (by have := HCX.out; omega)
            have v3 : ((k : Int) ≤ (cx : Int)) = True := eq_true (by have := HCX.out; omega)
            rw [← hk] at HLT HW
            clear HLY het hnm0 h1 h2 hk
            go_enter Try.func9, Try.ntmps9
            go_wp2_with fail
            refine HM.out.mono ?_
            rintro _ w1 ⟨rfl, hD1, hk1⟩
            have HD1 := Aside0.mk hD1
            have HK1 := Aside0.mk hk1
            clear hD1 hk1 HM
            go_wp2_with fail
            refine (HFR.out w1 HD1.out).mono ?_
            rintro _ w2 ⟨rfl, hb2⟩
            have HD2 := Aside0.mk (HD1.out.keep (fun k hk _ => hb2.block k hk))
            have HK2 := Aside0.mk (HK1.out.trans (Kp.of_below hb2))
            clear hb2 HFR HD1 HK1
            go_wp2_with fail
            refine (HLT.out w2 HD2.out HK2.out).mono ?_
            rintro _ w3 ⟨rfl, hl3, hk3⟩
            have HL3 := Aside0.mk hl3
            have HK3 := Aside0.mk (HK2.out.trans hk3)
            clear hl3 hk3 HLT HD2
            go_wp2_with fail
            go_ret
            obtain ⟨fN, hfN, hA⟩ := HL3.out
            exact ⟨fN, by have := HK2.out.size; omega, by rw [HW.out fN]; rfl, by rw [HW.out fN]; exact hA, HK3.out⟩
          · have q3 : decide ((n : Int) ≤ fr) = false := decide_eq_false h2
            simp only [true_and, if_true, h2, and_false, if_false] at HW
            clear HLY HLT het hnm0 h1 h2
            go_enter Try.func9, Try.ntmps9
            go_wp2_with fail
            refine HM.out.mono ?_
            rintro _ w1 ⟨rfl, hD1, hk1⟩
            have HD1 := Aside0.mk hD1
            have HK1 := Aside0.mk hk1
            clear hD1 hk1 HM
            go_wp2_with fail
            refine (HFR.out w1 HD1.out).mono ?_
            rintro _ w2 ⟨rfl, hb2⟩
            have HD2 := Aside0.mk (HD1.out.keep (fun k hk _ => hb2.block k hk))
            have HK2 := Aside0.mk (HK1.out.trans (Kp.of_below hb2))
            clear hb2 HFR HD1 HK1
            go_wp2_with fail
            go_ret
            exact ⟨w.heap.size, Nat.le_refl _, by rw [HW.out w.heap.size]; rfl, by rw [HW.out w.heap.size]; exact HD2.out, HK2.out⟩
        · have q1 : decide (1 < n) = false := decide_eq_false h1
          have q2 : decide ((1 : Int) < (n : Int)) = false := decide_eq_false (by omega)
          simp only [true_and, if_true, h1, and_false, false_and, if_false] at HW
          clear HFR HLY HLT het hnm0 h1
          go_enter Try.func9, Try.ntmps9
          go_wp2_with fail
          refine HM.out.mono ?_
          rintro _ w1 ⟨rfl, hD1, hk1⟩
          have HD1 := Aside0.mk hD1
          have HK1 := Aside0.mk hk1
          clear hD1 hk1 HM
          go_wp2_with fail
          go_ret
          exact ⟨w.heap.size, Nat.le_refl _, by rw [HW.out w.heap.size]; rfl, by rw [HW.out w.heap.size]; exact HD1.out, HK1.out⟩
    | true =>
      simp only [Bool.true_eq_false, if_false, hnm0] at HW
      by_cases h2 : (n : Int) > fr
      · have q3 : decide (fr < (n : Int)) = true := decide_eq_true h2
        simp only [h2, if_true] at HW
        clear HLY HLT het hnm0 h2
        cases mf
        all_goals
          go_enter Try.func9, Try.ntmps9
          go_wp2_with fail
          refine HM.out.mono ?_
          rintro _ w1 ⟨rfl, hD1, hk1⟩
          have HD1 := Aside0.mk hD1
          have HK1 := Aside0.mk hk1
          clear hD1 hk1 HM
          go_wp2_with fail
          refine (HFR.out w1 HD1.out).mono ?_
          rintro _ w2 ⟨rfl, hb2⟩
          have HD2 := Aside0.mk (HD1.out.keep (fun k hk _ => hb2.block k hk))
          have HK2 := Aside0.mk (HK1.out.trans (Kp.of_below hb2))
          clear hb2 HFR HD1 HK1
          go_wp2_with fail
          go_ret
          exact ⟨w.heap.size, Nat.le_refl _, by rw [HW.out w.heap.size]; rfl, by rw [HW.out w.heap.size]; exact HD2.out, HK2.out⟩
      · have q3 : decide (fr < (n : Int)) = false := decide_eq_false h2
        simp only [h2, if_false] at HW
        clear HLT het hnm0 h2
        cases mf
        all_goals
          go_enter Try.func9, Try.ntmps9
          go_wp2_with fail
          refine HM.out.mono ?_
          rintro _ w1 ⟨rfl, hD1, hk1⟩
          have HD1 := Aside0.mk hD1
          have HK1 := Aside0.mk hk1
          clear hD1 hk1 HM
          go_wp2_with fail
          refine (HFR.out w1 HD1.out).mono ?_
          rintro _ w2 ⟨rfl, hb2⟩
          have HD2 := Aside0.mk (HD1.out.keep (fun k hk _ => hb2.block k hk))
          have HK2 := Aside0.mk (HK1.out.trans (Kp.of_below hb2))
          clear hb2 HFR HD1 HK1
          go_wp2_with fail
          refine (HLY.out w2 HD2.out HK2.out).mono ?_
          rintro _ w3 ⟨rfl, hl3, hk3⟩
          have HL3 := Aside0.mk hl3
          have HK3 := Aside0.mk (HK2.out.trans hk3)
          clear hl3 hk3 HLY HD2
          go_wp2_with fail
          go_ret
          obtain ⟨fN, hfN, hA⟩ := HL3.out
          exact ⟨fN, by have := HK2.out.size; omega, by rw [HW.out fN]; rfl, by rw [HW.out fN]; exact hA, HK3.out⟩

end Go.Proofs.Ytgpinkgfgkolfaa.PD
