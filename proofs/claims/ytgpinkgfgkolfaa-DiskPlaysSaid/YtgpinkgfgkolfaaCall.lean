/- Disk.call walked. -/
import Derived.Test.YtgpinkgfgkolfaaCrash
namespace Go.Proofs.Ytgpinkgfgkolfaa.PD
open Go.RowKit Go.Proofs.YtgpinkgfgkolfaaW.PrintWords Go.Proofs.YtgpinkgfgkolfaaW.PrintLast Go.Proofs.YtgpinkgfgkolfaaW.PrintMore
set_option linter.unusedVariables false
set_option linter.unusedSimpArgs false
set_option maxHeartbeats 4000000
set_option maxRecDepth 100000

open Go.Proofs
def callL (A : Ab) (nm : Nm) (R : Nat → Ab → Int × Ab) : Int × Ab := if (mayL A).1 = false then (171, (mayL A).2.2) else match findL A.dir nm with | none => (172, (mayL A).2.2) | some f => R f (mayL A).2.2

set_option maxHeartbeats 4000000 in
theorem call_sync (ok : Nat → Prop) (d : Nat) (A : Ab) (nm : ByteArray)  (R : Nat → Ab → Int × Ab) (w : World) (h : DiskAt w ok d A) (hnm : nm.size ≤ maxLen) (hleft : -9223372036854775808 ≤ A.left ∧ A.left ≤ 9223372036854775807)
    (hdo : ∀ (W : World) (f : Nat), findL A.dir nm.data.toList = some f → DiskAt W ok d (mayL A).2.2 → Kp ok w W → Calls Try.prog 30 #[fptr f] W fun e w' => e = .returned (.int .i64 (R f (mayL A).2.2).1) ∧ DiskAt w' ok d (R f (mayL A).2.2).2 ∧ Kp ok W w') :
    Calls Try.prog 28 #[fptr d, .string nm, .func (.func 30) #[] #[]] w fun e w' => e = .returned (.int .i64 (callL A nm.data.toList R).1) ∧ DiskAt w' ok d (callL A nm.data.toList R).2 ∧ Kp ok w w' := by
  have HM := Aside0.mk (may_calls ok d A w h hleft)
  obtain ⟨s1, s2, s3, s4⟩ := mayL_same A
  obtain ⟨mb, mf, A1, hma⟩ : ∃ mb mf A1, mayL A = (mb, mf, A1) := ⟨_, _, _, rfl⟩
  rw [hma] at HM s1 hdo
  have s1' : A1.dir = A.dir := s1
  have HW := Aside0.mk (show callL A nm.data.toList R = if mb = false then (171, A1) else match findL A.dir nm.data.toList with | none => (172, A1) | some f => R f A1 by unfold callL; rw [hma])
  have HDO := Aside0.mk hdo
  clear h hma s1 s2 s3 s4 hleft hdo
  generalize callL A nm.data.toList R = RR at *
  cases mb with
  | false =>
    rw [if_pos rfl] at HW
    go_enter Try.func28, Try.ntmps28
    go_wp2_with fail
    refine HM.out.mono ?_
    rintro _ w1 ⟨rfl, hD1, hk1⟩
    have HD1 := Aside0.mk hD1
    have HK1 := Aside0.mk hk1
    clear hD1 hk1 HM
    go_wp2_with fail
    go_ret
    exact ⟨by rw [HW.out]; rfl, by rw [HW.out]; exact HD1.out, HK1.out⟩
  | true =>
    rw [if_neg (by decide)] at HW
    cases hf : findL A.dir nm.data.toList with
    | none =>
      rw [hf] at HW
      go_enter Try.func28, Try.ntmps28
      go_wp2_with fail
      refine HM.out.mono ?_
      rintro _ w1 ⟨rfl, hD1, hk1⟩
      have HD1 := Aside0.mk hD1
      have HK1 := Aside0.mk hk1
      obtain ⟨bd, bs, tg, hD⟩ := hD1
      have c1 : w1.cell? ⟨d, 1, none⟩ = some (.map (some bd)) := hD.cell 1
      have hlk := hD.2.2.2.2.2.1.lookup nm hnm
      rw [s1', hf, show ptrV none = .pointer none from rfl] at hlk
      clear hD hk1 HM hf
      go_wp2_with fail
      go_ret
      exact ⟨by rw [HW.out]; rfl, by rw [HW.out]; exact HD1.out, HK1.out⟩
    | some f =>
      rw [hf] at HW
      go_enter Try.func28, Try.ntmps28
      go_wp2_with fail
      refine HM.out.mono ?_
      rintro _ w1 ⟨rfl, hD1, hk1⟩
      have HD1 := Aside0.mk hD1
      have HK1 := Aside0.mk hk1
      have HC := Aside0.mk (HDO.out w1 f hf hD1 hk1)
      obtain ⟨bd, bs, tg, hD⟩ := hD1
      have c1 : w1.cell? ⟨d, 1, none⟩ = some (.map (some bd)) := hD.cell 1
      have hlk := hD.2.2.2.2.2.1.lookup nm hnm
      rw [s1', hf, show ptrV (some f) = .pointer (some ⟨f, 0, none⟩) from rfl] at hlk
      clear hD hk1 HM hf HDO
      go_wp2_with fail
      refine HC.out.mono ?_
      rintro _ w2 ⟨rfl, hD2, hk2⟩
      have HD2 := Aside0.mk hD2
      have HK2 := Aside0.mk (HK1.out.trans hk2)
      clear hD2 hk2 HC
      go_wp2_with fail
      go_ret
      exact ⟨by rw [HW.out]; rfl, by rw [HW.out]; exact HD2.out, HK2.out⟩

set_option maxHeartbeats 4000000 in
theorem call_remove (ok : Nat → Prop) (d : Nat) (A : Ab) (nm : ByteArray) (p1 p2 : Nat) (R : Nat → Ab → Int × Ab) (w : World) (h : DiskAt w ok d A) (hnm : nm.size ≤ maxLen) (hleft : -9223372036854775808 ≤ A.left ∧ A.left ≤ 9223372036854775807)
    (hdo : ∀ (W : World) (f : Nat), findL A.dir nm.data.toList = some f → DiskAt W ok d (mayL A).2.2 → Kp ok w W → Calls Try.prog 29 #[fptr f, .pointer (some ⟨p1, 0, none⟩), .pointer (some ⟨p2, 0, none⟩)] W fun e w' => e = .returned (.int .i64 (R f (mayL A).2.2).1) ∧ DiskAt w' ok d (R f (mayL A).2.2).2 ∧ Kp ok W w') :
    Calls Try.prog 28 #[fptr d, .string nm, .func (.func 29) #[] #[.pointer (some ⟨p1, 0, none⟩), .pointer (some ⟨p2, 0, none⟩)]] w fun e w' => e = .returned (.int .i64 (callL A nm.data.toList R).1) ∧ DiskAt w' ok d (callL A nm.data.toList R).2 ∧ Kp ok w w' := by
  have HM := Aside0.mk (may_calls ok d A w h hleft)
  obtain ⟨s1, s2, s3, s4⟩ := mayL_same A
  obtain ⟨mb, mf, A1, hma⟩ : ∃ mb mf A1, mayL A = (mb, mf, A1) := ⟨_, _, _, rfl⟩
  rw [hma] at HM s1 hdo
  have s1' : A1.dir = A.dir := s1
  have HW := Aside0.mk (show callL A nm.data.toList R = if mb = false then (171, A1) else match findL A.dir nm.data.toList with | none => (172, A1) | some f => R f A1 by unfold callL; rw [hma])
  have HDO := Aside0.mk hdo
  clear h hma s1 s2 s3 s4 hleft hdo
  generalize callL A nm.data.toList R = RR at *
  cases mb with
  | false =>
    rw [if_pos rfl] at HW
    go_enter Try.func28, Try.ntmps28
    go_wp2_with fail
    refine HM.out.mono ?_
    rintro _ w1 ⟨rfl, hD1, hk1⟩
    have HD1 := Aside0.mk hD1
    have HK1 := Aside0.mk hk1
    clear hD1 hk1 HM
    go_wp2_with fail
    go_ret
    exact ⟨by rw [HW.out]; rfl, by rw [HW.out]; exact HD1.out, HK1.out⟩
  | true =>
    rw [if_neg (by decide)] at HW
    cases hf : findL A.dir nm.data.toList with
    | none =>
      rw [hf] at HW
      go_enter Try.func28, Try.ntmps28
      go_wp2_with fail
      refine HM.out.mono ?_
      rintro _ w1 ⟨rfl, hD1, hk1⟩
      have HD1 := Aside0.mk hD1
      have HK1 := Aside0.mk hk1
      obtain ⟨bd, bs, tg, hD⟩ := hD1
      have c1 : w1.cell? ⟨d, 1, none⟩ = some (.map (some bd)) := hD.cell 1
      have hlk := hD.2.2.2.2.2.1.lookup nm hnm
      rw [s1', hf, show ptrV none = .pointer none from rfl] at hlk
      clear hD hk1 HM hf
      go_wp2_with fail
      go_ret
      exact ⟨by rw [HW.out]; rfl, by rw [HW.out]; exact HD1.out, HK1.out⟩
    | some f =>
      rw [hf] at HW
      go_enter Try.func28, Try.ntmps28
      go_wp2_with fail
      refine HM.out.mono ?_
      rintro _ w1 ⟨rfl, hD1, hk1⟩
      have HD1 := Aside0.mk hD1
      have HK1 := Aside0.mk hk1
      have HC := Aside0.mk (HDO.out w1 f hf hD1 hk1)
      obtain ⟨bd, bs, tg, hD⟩ := hD1
      have c1 : w1.cell? ⟨d, 1, none⟩ = some (.map (some bd)) := hD.cell 1
      have hlk := hD.2.2.2.2.2.1.lookup nm hnm
      rw [s1', hf, show ptrV (some f) = .pointer (some ⟨f, 0, none⟩) from rfl] at hlk
      clear hD hk1 HM hf HDO
      go_wp2_with fail
      refine HC.out.mono ?_
      rintro _ w2 ⟨rfl, hD2, hk2⟩
      have HD2 := Aside0.mk hD2
      have HK2 := Aside0.mk (HK1.out.trans hk2)
      clear hD2 hk2 HC
      go_wp2_with fail
      go_ret
      exact ⟨by rw [HW.out]; rfl, by rw [HW.out]; exact HD2.out, HK2.out⟩

set_option maxHeartbeats 4000000 in
theorem call_rename (ok : Nat → Prop) (d : Nat) (A : Ab) (nm : ByteArray) (p1 p2 p3 : Nat) (R : Nat → Ab → Int × Ab) (w : World) (h : DiskAt w ok d A) (hnm : nm.size ≤ maxLen) (hleft : -9223372036854775808 ≤ A.left ∧ A.left ≤ 9223372036854775807)
    (hdo : ∀ (W : World) (f : Nat), findL A.dir nm.data.toList = some f → DiskAt W ok d (mayL A).2.2 → Kp ok w W → Calls Try.prog 31 #[fptr f, .pointer (some ⟨p1, 0, none⟩), .pointer (some ⟨p2, 0, none⟩), .pointer (some ⟨p3, 0, none⟩)] W fun e w' => e = .returned (.int .i64 (R f (mayL A).2.2).1) ∧ DiskAt w' ok d (R f (mayL A).2.2).2 ∧ Kp ok W w') :
    Calls Try.prog 28 #[fptr d, .string nm, .func (.func 31) #[] #[.pointer (some ⟨p1, 0, none⟩), .pointer (some ⟨p2, 0, none⟩), .pointer (some ⟨p3, 0, none⟩)]] w fun e w' => e = .returned (.int .i64 (callL A nm.data.toList R).1) ∧ DiskAt w' ok d (callL A nm.data.toList R).2 ∧ Kp ok w w' := by
  have HM := Aside0.mk (may_calls ok d A w h hleft)
  obtain ⟨s1, s2, s3, s4⟩ := mayL_same A
  obtain ⟨mb, mf, A1, hma⟩ : ∃ mb mf A1, mayL A = (mb, mf, A1) := ⟨_, _, _, rfl⟩
  rw [hma] at HM s1 hdo
  have s1' : A1.dir = A.dir := s1
  have HW := Aside0.mk (show callL A nm.data.toList R = if mb = false then (171, A1) else match findL A.dir nm.data.toList with | none => (172, A1) | some f => R f A1 by unfold callL; rw [hma])
  have HDO := Aside0.mk hdo
  clear h hma s1 s2 s3 s4 hleft hdo
  generalize callL A nm.data.toList R = RR at *
  cases mb with
  | false =>
    rw [if_pos rfl] at HW
    go_enter Try.func28, Try.ntmps28
    go_wp2_with fail
    refine HM.out.mono ?_
    rintro _ w1 ⟨rfl, hD1, hk1⟩
    have HD1 := Aside0.mk hD1
    have HK1 := Aside0.mk hk1
    clear hD1 hk1 HM
    go_wp2_with fail
    go_ret
    exact ⟨by rw [HW.out]; rfl, by rw [HW.out]; exact HD1.out, HK1.out⟩
  | true =>
    rw [if_neg (by decide)] at HW
    cases hf : findL A.dir nm.data.toList with
    | none =>
      rw [hf] at HW
      go_enter Try.func28, Try.ntmps28
      go_wp2_with fail
      refine HM.out.mono ?_
      rintro _ w1 ⟨rfl, hD1, hk1⟩
      have HD1 := Aside0.mk hD1
      have HK1 := Aside0.mk hk1
      obtain ⟨bd, bs, tg, hD⟩ := hD1
      have c1 : w1.cell? ⟨d, 1, none⟩ = some (.map (some bd)) := hD.cell 1
      have hlk := hD.2.2.2.2.2.1.lookup nm hnm
      rw [s1', hf, show ptrV none = .pointer none from rfl] at hlk
      clear hD hk1 HM hf
      go_wp2_with fail
      go_ret
      exact ⟨by rw [HW.out]; rfl, by rw [HW.out]; exact HD1.out, HK1.out⟩
    | some f =>
      rw [hf] at HW
      go_enter Try.func28, Try.ntmps28
      go_wp2_with fail
      refine HM.out.mono ?_
      rintro _ w1 ⟨rfl, hD1, hk1⟩
      have HD1 := Aside0.mk hD1
      have HK1 := Aside0.mk hk1
      have HC := Aside0.mk (HDO.out w1 f hf hD1 hk1)
      obtain ⟨bd, bs, tg, hD⟩ := hD1
      have c1 : w1.cell? ⟨d, 1, none⟩ = some (.map (some bd)) := hD.cell 1
      have hlk := hD.2.2.2.2.2.1.lookup nm hnm
      rw [s1', hf, show ptrV (some f) = .pointer (some ⟨f, 0, none⟩) from rfl] at hlk
      clear hD hk1 HM hf HDO
      go_wp2_with fail
      refine HC.out.mono ?_
      rintro _ w2 ⟨rfl, hD2, hk2⟩
      have HD2 := Aside0.mk hD2
      have HK2 := Aside0.mk (HK1.out.trans hk2)
      clear hD2 hk2 HC
      go_wp2_with fail
      go_ret
      exact ⟨by rw [HW.out]; rfl, by rw [HW.out]; exact HD2.out, HK2.out⟩

end Go.Proofs.Ytgpinkgfgkolfaa.PD
