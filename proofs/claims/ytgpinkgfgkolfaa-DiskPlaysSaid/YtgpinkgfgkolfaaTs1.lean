/- The law's step over both disks, kind 1. -/
import Derived.Test.YtgpinkgfgkolfaaTwo
import Derived.Test.YtgpinkgfgkolfaaRgC
import Derived.Deep.RegionWith
namespace Go.Proofs.Ytgpinkgfgkolfaa.PD
open Go.RowKit Go.Proofs.YtgpinkgfgkolfaaW.PrintWords Go.Proofs.YtgpinkgfgkolfaaW.PrintLast Go.Proofs.YtgpinkgfgkolfaaW.PrintMore
set_option linter.unusedVariables false
set_option linter.unusedSimpArgs false
set_option maxHeartbeats 4000000
set_option maxRecDepth 100000

open Go.Proofs

set_option maxHeartbeats 16000000 in
theorem ts_cut (B x d k L : Nat) (bs : List UInt8) (A : Ab) (R : Rb) (kd ni ti n : Int) (BA : Option Addr) (c : Nat) (w : World) (h : Twin B w d x A R) (hP : PS k L A R) (hB : B ≤ w.heap.size) (hkd : (IntKind.u64.wrap kd).tmod 9 = 1)
    (hn : -9223372036854775808 ≤ n ∧ n ≤ 9223372036854775807) (hs : ∀ W, Below B w W → SrcAt W (.slice BA bs.length c) bs) (hbl : bs.length ≤ 1000) (hkL : k ≤ 1000000 ∧ L ≤ 1000000) :
    Calls Try.prog 18 #[fptr d, fptr x, opV kd ni ti n BA bs.length c] w fun e w' => e = .returned (.bool true) ∧ TQ B x d k L bs.length w w' := by
  have HBL := Aside0.mk hbl
  have HS := Aside0.mk hs
  obtain ⟨l, hl⟩ : ∃ l, l = bs.length := ⟨_, rfl⟩
  rw [← hl]
  have HL := Aside0.mk hl
  clear hbl hs hl
  obtain ⟨wb, hwb⟩ : ∃ W, W = w.alloc (.cells (opC kd ni ti n BA l c) 42) := ⟨_, rfl⟩
  have hbw : Below w.heap.size w wb := by rw [hwb]; exact below_alloc (Below.refl _ _) _
  have hsz : w.heap.size < wb.heap.size := by rw [hwb]; simp
  obtain ⟨ok1, ok2, hd1, hd2, hD, hR⟩ := h
  have HOK := Aside0.mk (And.intro hd1 hd2)
  have HBX := Aside0.mk (fun (W : World) (hW : Below wb.heap.size wb W) => show W.heap[w.heap.size]? = some (.cells (opC kd ni ti n BA l c) 42 (0, 0)) from (hW.block _ (by rw [hwb]; simp)).trans (by rw [hwb]; exact heap_alloc_new w _))
  have HTI := Aside0.mk (fun (W : World) (hW : Below wb.heap.size wb W) => show W.cell? ⟨w.heap.size, 2, none⟩ = some (.int .i64 ti) by have hh := HBX.out W hW; simp [World.cell?, hh])
  have HKD := Aside0.mk (fun (W : World) (hW : Below wb.heap.size wb W) => show W.cell? ⟨w.heap.size, 0, none⟩ = some (.int .i64 kd) by have hh := HBX.out W hW; simp [World.cell?, hh])
  have HD := Aside0.mk (fun (W : World) (hW : Below wb.heap.size wb W) => show DiskAt W ok1 d A from hD.keep (fun k hk _ => (hW.block k (Nat.lt_of_lt_of_le hk hbw.size)).trans (hbw.block k hk)))
  have HR := Aside0.mk (fun (W : World) (hW : Below wb.heap.size wb W) => show RDisk W ok2 x R from hR.keep (fun k hk _ => (hW.block k (Nat.lt_of_lt_of_le hk hbw.size)).trans (hbw.block k hk)))
  have HW := Aside0.mk (And.intro hwb (And.intro hbw (And.intro hB (And.intro hsz (And.intro hn hkL)))))
  have HP := Aside0.mk hP
  clear hD hR hB hP hbw hsz hn hkL hd1 hd2
  have hh := HBX.out wb (Below.refl _ _)
  have c0 : wb.cell? ⟨w.heap.size, 1, none⟩ = some (.int .i64 ni) := by simp [World.cell?, hh]
  have c1 : wb.cell? ⟨w.heap.size, 2, none⟩ = some (.int .i64 ti) := by simp [World.cell?, hh]
  clear hh
  have HWB := Aside0.mk hwb.symm
  clear hwb
  go_enter Try.func18, Try.ntmps18
  go_wp2_with fail
  change Code.wp _ _ _ _ (w.alloc (.cells (opC kd ni ti n BA l c) 42))
  rw [HWB.out]
  have HCUR := Aside0.mk (show Below wb.heap.size wb wb.drew from below_drew (Below.refl _ _))
  go_region_with (go_at_call 33; refine (name_calls _ _).mono ?_; rintro _ w2 ⟨k2, hk2, rfl, hb2⟩; have HC2 := Aside0.mk (Below.trans HCUR.out (hb2.mono HCUR.out.size)); have c2 := HTI.out w2 HC2.out; clear HCUR hb2; have HCUR := HC2; clear HC2)
  all_goals
    have c3 := HKD.out w2 HCUR.out
    clear c0 c1 c2
    have HCX := Aside0.mk (HCUR.out.trans (below_drew (Below.refl wb.heap.size w2)))
    have HB2 := Aside0.mk (show Below B w w2.drew from (HW.out.2.1.mono HW.out.2.2.1).trans (HCX.out.mono (Nat.le_trans HW.out.2.2.1 HW.out.2.1.size)))
    have HS2 := Aside0.mk (show w.heap.size < w2.drew.heap.size from Nat.lt_of_lt_of_le HW.out.2.2.2.1 HCX.out.size)
    have hD2 : DiskAt w2.drew (fun k => ok1 k ∨ w2.drew.heap.size ≤ k) d A := (HD.out w2.drew HCX.out).mono fun k _ h => .inl h
    have HD2 := Aside0.mk hD2
    have HR2 := Aside0.mk (HR.out w2.drew HCX.out)
    clear hD2
    have hh := HBX.out w2.drew HCX.out
    have c4 : w2.drew.cell? ⟨w.heap.size, 3, none⟩ = some (.int .i64 n) := by simp only [World.cell?, hh]; rfl
    clear hh
    go_wp2_with fail
    go_region_with (first
      | (go_at_call 35; refine (cut_calls (fun k => ok1 k ∨ w2.drew.heap.size ≤ k) d A (nmB _) n w2.drew HD2.out (fun k hk => .inr hk) (nmB_max _) HP.out.fa.left (fun f hf => by have := (HP.out.fa.len f).2; have := HW.out.2.2.2.2.2; omega)).mono ?_; rintro _ w3 ⟨rfl, hD3, hk3⟩; have HD3 := Aside0.mk hD3; have HK3 := Aside0.mk hk3; have HR3 := Aside0.mk (two_ref HOK.out (Nat.le_of_lt HS2.out) HR2.out hk3); have hh3 := (hk3.block w.heap.size HS2.out (fun e => e.elim (fun e => absurd (HOK.out.1 _ e).2.1 (Nat.lt_irrefl _)) (fun e => absurd HS2.out (Nat.not_lt.2 e)))).trans (HBX.out w2.drew HCX.out); have c5 : w3.cell? ⟨w.heap.size, 3, none⟩ = some (.int .i64 n) := (by simp [World.cell?, hh3]); clear hh3 hD3 hk3)
      | (go_at_call 36; refine (rcut_calls (fun k => ok2 k ∨ w3.heap.size ≤ k) x R (nmB _) n w3 HR3.out (fun k hk => .inr hk) HP.out.fr (by have := HW.out.2.2.2.2.2; omega) (by have := HW.out.2.2.2.2.2; omega)).mono ?_; rintro _ w4 ⟨rfl, hR4, hk4⟩; rw [← (HP.out.cut _ n l).1]; have HR4 := Aside0.mk hR4; have HK4 := Aside0.mk hk4; clear hR4 hk4))
    all_goals
      go_wp2_with fail
      go_ret
      exact ⟨rfl, two_fin HOK.out HW.out.2.2.1 HB2.out (Nat.le_of_lt HS2.out) HK3.out HD3.out HK4.out HR4.out (HP.out.cut _ n l).2⟩

end Go.Proofs.Ytgpinkgfgkolfaa.PD
