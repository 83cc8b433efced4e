/- The law's step over both disks, kind 6. -/
import Derived.Test.YtgpinkgfgkolfaaTwo
import Derived.Deep.RegionWith
import Derived.Test.YtgpinkgfgkolfaaTsW
namespace Go.Proofs.Ytgpinkgfgkolfaa.PD
open Go.RowKit Go.Proofs.YtgpinkgfgkolfaaW.PrintWords Go.Proofs.YtgpinkgfgkolfaaW.PrintLast Go.Proofs.YtgpinkgfgkolfaaW.PrintMore
set_option linter.unusedVariables false
set_option linter.unusedSimpArgs false
set_option maxHeartbeats 4000000
set_option maxRecDepth 100000

open Go.Proofs

set_option maxHeartbeats 16000000 in
theorem ts_crash (B x d k L : Nat) (bs : List UInt8) (A : Ab) (R : Rb) (kd ni ti n : Int) (BA : Option Addr) (c : Nat) (w : World) (h : Twin B w d x A R) (hP : PS k L A R) (hB : B ≤ w.heap.size) (hkd : (IntKind.u64.wrap kd).tmod 9 = 6)
    (hn : -9223372036854775808 ≤ n ∧ n ≤ 9223372036854775807) (hs : ∀ W, Below B w W → SrcAt W (.slice BA bs.length c) bs) (hbl : bs.length ≤ 1000) (hkL : k ≤ 1000000 ∧ L ≤ 1000000) :
    Calls Try.prog 18 #[fptr d, fptr x, opV kd ni ti n BA bs.length c] w fun e w' => e = .returned (.bool true) ∧ TQ B x d k L bs.length w w' := by
  have HBL := Aside0.mk hbl
  have HS := Aside0.mk hs
  obtain ⟨l, hl⟩ : ∃ l, l = bs.length := ⟨_, rfl⟩
  rw [← hl]
  have HL := Aside0.mk hl
  clear hbl hs hl
  obtain ⟨wb, hwb⟩ : ∃ W, W = w.alloc (.cells (opC kd ni ti n BA l c) 42) := ⟨_, rfl⟩
  have hbw : Below w.heap.size w wb := by rw [hwb]; exact below_alloc (Below.refl _ _) _
  have hsz : w.heap.size < wb.heap.size := by rw [hwb]; simp
  obtain ⟨ok1, ok2, hd1, hd2, hD, hR⟩ := h
  have HOK := Aside0.mk (And.intro hd1 hd2)
  have HBX := Aside0.mk (fun (W : World) (hW : Below wb.heap.size wb W) => show W.heap[w.heap.size]? = some (.cells (opC kd ni ti n BA l c) 42 (0, 0)) from (hW.block _ (by rw [hwb]; simp)).trans (by rw [hwb]; exact heap_alloc_new w _))
  have HTI := Aside0.mk (fun (W : World) (hW : Below wb.heap.size wb W) => show W.cell? ⟨w.heap.size, 2, none⟩ = some (.int .i64 ti) by have hh := HBX.out W hW; simp [World.cell?, hh])
  have HKD := Aside0.mk (fun (W : World) (hW : Below wb.heap.size wb W) => show W.cell? ⟨w.heap.size, 0, none⟩ = some (.int .i64 kd) by have hh := HBX.out W hW; simp [World.cell?, hh])
  have HD := Aside0.mk (fun (W : World) (hW : Below wb.heap.size wb W) => show DiskAt W ok1 d A from hD.keep (fun k hk _ => (hW.block k (Nat.lt_of_lt_of_le hk hbw.size)).trans (hbw.block k hk)))
  have HR := Aside0.mk (fun (W : World) (hW : Below wb.heap.size wb W) => show RDisk W ok2 x R from hR.keep (fun k hk _ => (hW.block k (Nat.lt_of_lt_of_le hk hbw.size)).trans (hbw.block k hk)))
  have HW := Aside0.mk (And.intro hwb (And.intro hbw (And.intro hB (And.intro hsz (And.intro hn hkL)))))
  have HP := Aside0.mk hP
  clear hD hR hB hP hbw hsz hn hkL hd1 hd2
  have hh := HBX.out wb (Below.refl _ _)
  have c0 : wb.cell? ⟨w.heap.size, 1, none⟩ = some (.int .i64 ni) := by simp [World.cell?, hh]
  have c1 : wb.cell? ⟨w.heap.size, 2, none⟩ = some (.int .i64 ti) := by simp [World.cell?, hh]
  clear hh
  have HWB := Aside0.mk hwb.symm
  clear hwb
  go_enter Try.func18, Try.ntmps18
  go_wp2_with fail
  change Code.wp _ _ _ _ (w.alloc (.cells (opC kd ni ti n BA l c) 42))
  rw [HWB.out]
  have HCUR := Aside0.mk (show Below wb.heap.size wb wb.drew from below_drew (Below.refl _ _))
  go_region_with (go_at_call 33; refine (name_calls _ _).mono ?_; rintro _ w2 ⟨k2, hk2, rfl, hb2⟩; have HC2 := Aside0.mk (Below.trans HCUR.out (hb2.mono HCUR.out.size)); have c2 := HTI.out w2 HC2.out; clear HCUR hb2; have HCUR := HC2; clear HC2)
  all_goals
    have c3 := HKD.out w2 HCUR.out
    clear c0 c1 c2
    have HB2 := Aside0.mk (show Below B w w2 from (HW.out.2.1.mono HW.out.2.2.1).trans (HCUR.out.mono (Nat.le_trans HW.out.2.2.1 HW.out.2.1.size)))
    have HS2 := Aside0.mk (show w.heap.size < w2.heap.size from Nat.lt_of_lt_of_le HW.out.2.2.2.1 HCUR.out.size)
    have hD2 : DiskAt w2 (fun k => ok1 k ∨ w2.heap.size ≤ k) d A := (HD.out w2 HCUR.out).mono fun k _ h => .inl h
    have HD2 := Aside0.mk hD2
    have HR2 := Aside0.mk (HR.out w2 HCUR.out)
    clear hD2
    have hh := HBX.out w2 HCUR.out
    have c4 : w2.cell? ⟨w.heap.size, 3, none⟩ = some (.int .i64 n) := by simp [World.cell?, hh]
    clear hh
    go_wp2_with fail
    refine (crash_calls (fun k => ok1 k ∨ w2.heap.size ≤ k) d A n w2 HD2.out (fun k hk => .inr hk) (fun f hf => ⟨(HP.out.fa.len f).1, by have := (HP.out.fa.len f).2; have := HW.out.2.2.2.2.2; omega⟩)).mono ?_
    rintro _ w3 ⟨rfl, hD3, hk3⟩
    have hR3 := two_ref HOK.out (Nat.le_of_lt HS2.out) HR2.out hk3
    have hh3 := (hk3.block w.heap.size HS2.out (fun e => by
      rcases e with e | e
      · have := (HOK.out.1 _ e).2.1; omega
      · have := HS2.out; omega)).trans (HBX.out w2 HCUR.out)
    have c5 : w3.cell? ⟨w.heap.size, 3, none⟩ = some (.int .i64 n) := by simp [World.cell?, hh3]
    clear hh3
    have HD3 := Aside0.mk hD3
    have HK3 := Aside0.mk hk3
    have HR3 := Aside0.mk hR3
    clear hD3 hk3 hR3
    go_wp2_with fail
    refine (rcrash_calls (fun k => ok2 k ∨ w3.heap.size ≤ k) x R n w3 HR3.out (fun k hk => .inr hk) HP.out.fr (by have := HW.out.2.2.2.2.2; omega) (by have := HW.out.2.2.2.2.2; omega)).mono ?_
    rintro _ w4 ⟨rfl, hR4, hk4⟩
    have HR4 := Aside0.mk hR4
    have HK4 := Aside0.mk hk4
    clear hR4 hk4
    go_wp2_with fail
    go_ret
    exact ⟨rfl, two_fin HOK.out HW.out.2.2.1 HB2.out (Nat.le_of_lt HS2.out) HK3.out HD3.out HK4.out HR4.out (HP.out.crash n l)⟩

end Go.Proofs.Ytgpinkgfgkolfaa.PD

namespace Go.Proofs.Ytgpinkgfgkolfaa.PD
open Go.RowKit Go.Proofs.YtgpinkgfgkolfaaW.PrintWords Go.Proofs.YtgpinkgfgkolfaaW.PrintLast Go.Proofs.YtgpinkgfgkolfaaW.PrintMore
set_option linter.unusedVariables false
set_option linter.unusedSimpArgs false
set_option maxHeartbeats 4000000
set_option maxRecDepth 100000

open Go.Proofs

set_option maxHeartbeats 16000000 in
theorem ts_fail (B x d k L : Nat) (bs : List UInt8) (A : Ab) (R : Rb) (kd ni ti n : Int) (BA : Option Addr) (c : Nat) (w : World) (h : Twin B w d x A R) (hP : PS k L A R) (hB : B ≤ w.heap.size) (hkd : (IntKind.u64.wrap kd).tmod 9 = 7)
    (hn : -9223372036854775808 ≤ n ∧ n ≤ 9223372036854775807) (hs : ∀ W, Below B w W → SrcAt W (.slice BA bs.length c) bs) (hbl : bs.length ≤ 1000) (hkL : k ≤ 1000000 ∧ L ≤ 1000000) :
    Calls Try.prog 18 #[fptr d, fptr x, opV kd ni ti n BA bs.length c] w fun e w' => e = .returned (.bool true) ∧ TQ B x d k L bs.length w w' := by
  have HBL := Aside0.mk hbl
  have HS := Aside0.mk hs
  obtain ⟨l, hl⟩ : ∃ l, l = bs.length := ⟨_, rfl⟩
  rw [← hl]
  have HL := Aside0.mk hl
  clear hbl hs hl
  obtain ⟨wb, hwb⟩ : ∃ W, W = w.alloc (.cells (opC kd ni ti n BA l c) 42) := ⟨_, rfl⟩
  have hbw : Below w.heap.size w wb := by rw [hwb]; exact below_alloc (Below.refl _ _) _
  have hsz : w.heap.size < wb.heap.size := by rw [hwb]; simp
  obtain ⟨ok1, ok2, hd1, hd2, hD, hR⟩ := h
  have HOK := Aside0.mk (And.intro hd1 hd2)
  have HBX := Aside0.mk (fun (W : World) (hW : Below wb.heap.size wb W) => show W.heap[w.heap.size]? = some (.cells (opC kd ni ti n BA l c) 42 (0, 0)) from (hW.block _ (by rw [hwb]; simp)).trans (by rw [hwb]; exact heap_alloc_new w _))
  have HTI := Aside0.mk (fun (W : World) (hW : Below wb.heap.size wb W) => show W.cell? ⟨w.heap.size, 2, none⟩ = some (.int .i64 ti) by have hh := HBX.out W hW; simp [World.cell?, hh])
  have HKD := Aside0.mk (fun (W : World) (hW : Below wb.heap.size wb W) => show W.cell? ⟨w.heap.size, 0, none⟩ = some (.int .i64 kd) by have hh := HBX.out W hW; simp [World.cell?, hh])
  have HD := Aside0.mk (fun (W : World) (hW : Below wb.heap.size wb W) => show DiskAt W ok1 d A from hD.keep (fun k hk _ => (hW.block k (Nat.lt_of_lt_of_le hk hbw.size)).trans (hbw.block k hk)))
  have HR := Aside0.mk (fun (W : World) (hW : Below wb.heap.size wb W) => show RDisk W ok2 x R from hR.keep (fun k hk _ => (hW.block k (Nat.lt_of_lt_of_le hk hbw.size)).trans (hbw.block k hk)))
  have HW := Aside0.mk (And.intro hwb (And.intro hbw (And.intro hB (And.intro hsz (And.intro hn hkL)))))
  have HP := Aside0.mk hP
  clear hD hR hB hP hbw hsz hn hkL hd1 hd2
  have hh := HBX.out wb (Below.refl _ _)
  have c0 : wb.cell? ⟨w.heap.size, 1, none⟩ = some (.int .i64 ni) := by simp [World.cell?, hh]
  have c1 : wb.cell? ⟨w.heap.size, 2, none⟩ = some (.int .i64 ti) := by simp [World.cell?, hh]
  clear hh
  have HWB := Aside0.mk hwb.symm
  clear hwb
  go_enter Try.func18, Try.ntmps18
  go_wp2_with fail
  change Code.wp _ _ _ _ (w.alloc (.cells (opC kd ni ti n BA l c) 42))
  rw [HWB.out]
  have HCUR := Aside0.mk (show Below wb.heap.size wb wb.drew from below_drew (Below.refl _ _))
  go_region_with (go_at_call 33; refine (name_calls _ _).mono ?_; rintro _ w2 ⟨k2, hk2, rfl, hb2⟩; have HC2 := Aside0.mk (Below.trans HCUR.out (hb2.mono HCUR.out.size)); have c2 := HTI.out w2 HC2.out; clear HCUR hb2; have HCUR := HC2; clear HC2)
  all_goals
    have c3 := HKD.out w2 HCUR.out
    clear c0 c1 c2
    have HB2 := Aside0.mk (show Below B w w2 from (HW.out.2.1.mono HW.out.2.2.1).trans (HCUR.out.mono (Nat.le_trans HW.out.2.2.1 HW.out.2.1.size)))
    have HS2 := Aside0.mk (show w.heap.size < w2.heap.size from Nat.lt_of_lt_of_le HW.out.2.2.2.1 HCUR.out.size)
    have hD2 : DiskAt w2 (fun k => ok1 k ∨ w2.heap.size ≤ k) d A := (HD.out w2 HCUR.out).mono fun k _ h => .inl h
    have HD2 := Aside0.mk hD2
    have HR2 := Aside0.mk (HR.out w2 HCUR.out)
    clear hD2
    have hh := HBX.out w2 HCUR.out
    have c4 : w2.cell? ⟨w.heap.size, 3, none⟩ = some (.int .i64 n) := by simp [World.cell?, hh]
    clear hh
    go_wp2_with fail
    refine (fail_calls (fun k => ok1 k ∨ w2.heap.size ≤ k) d A n w2 HD2.out).mono ?_
    rintro _ w3 ⟨rfl, hD3, hk3⟩
    have hR3 := two_ref HOK.out (Nat.le_of_lt HS2.out) HR2.out hk3
    have hh3 := (hk3.block w.heap.size HS2.out (fun e => by
      rcases e with e | e
      · have := (HOK.out.1 _ e).2.1; omega
      · have := HS2.out; omega)).trans (HBX.out w2 HCUR.out)
    have c5 : w3.cell? ⟨w.heap.size, 3, none⟩ = some (.int .i64 n) := by simp [World.cell?, hh3]
    clear hh3
    have HD3 := Aside0.mk hD3
    have HK3 := Aside0.mk hk3
    have HR3 := Aside0.mk hR3
    clear hD3 hk3 hR3
    go_wp2_with fail
    refine (rfail_calls (fun k => ok2 k ∨ w3.heap.size ≤ k) x R n w3 HR3.out).mono ?_
    rintro _ w4 ⟨rfl, hR4, hk4⟩
    have HR4 := Aside0.mk hR4
    have HK4 := Aside0.mk hk4
    clear hR4 hk4
    go_wp2_with fail
    go_ret
    exact ⟨rfl, two_fin HOK.out HW.out.2.2.1 HB2.out (Nat.le_of_lt HS2.out) HK3.out HD3.out HK4.out HR4.out (HP.out.fail n HW.out.2.2.2.2.1 l)⟩

end Go.Proofs.Ytgpinkgfgkolfaa.PD

namespace Go.Proofs.Ytgpinkgfgkolfaa.PD
open Go.RowKit Go.Proofs.YtgpinkgfgkolfaaW.PrintWords Go.Proofs.YtgpinkgfgkolfaaW.PrintLast Go.Proofs.YtgpinkgfgkolfaaW.PrintMore
set_option linter.unusedVariables false
set_option linter.unusedSimpArgs false
set_option maxHeartbeats 4000000
set_option maxRecDepth 100000

open Go.Proofs

set_option maxHeartbeats 16000000 in
theorem ts_read (B x d k L : Nat) (bs : List UInt8) (A : Ab) (R : Rb) (kd ni ti n : Int) (BA : Option Addr) (c : Nat) (w : World) (h : Twin B w d x A R) (hP : PS k L A R) (hB : B ≤ w.heap.size) (hkd : (IntKind.u64.wrap kd).tmod 9 = 8)
    (hn : -9223372036854775808 ≤ n ∧ n ≤ 9223372036854775807) (hs : ∀ W, Below B w W → SrcAt W (.slice BA bs.length c) bs) (hbl : bs.length ≤ 1000) (hkL : k ≤ 1000000 ∧ L ≤ 1000000) :
    Calls Try.prog 18 #[fptr d, fptr x, opV kd ni ti n BA bs.length c] w fun e w' => e = .returned (.bool true) ∧ TQ B x d k L bs.length w w' := by
  have HBL := Aside0.mk hbl
  have HS := Aside0.mk hs
  obtain ⟨l, hl⟩ : ∃ l, l = bs.length := ⟨_, rfl⟩
  rw [← hl]
  have HL := Aside0.mk hl
  clear hbl hs hl
  obtain ⟨wb, hwb⟩ : ∃ W, W = w.alloc (.cells (opC kd ni ti n BA l c) 42) := ⟨_, rfl⟩
  have hbw : Below w.heap.size w wb := by rw [hwb]; exact below_alloc (Below.refl _ _) _
  have hsz : w.heap.size < wb.heap.size := by rw [hwb]; simp
  obtain ⟨ok1, ok2, hd1, hd2, hD, hR⟩ := h
  have HOK := Aside0.mk (And.intro hd1 hd2)
  have HBX := Aside0.mk (fun (W : World) (hW : Below wb.heap.size wb W) => show W.heap[w.heap.size]? = some (.cells (opC kd ni ti n BA l c) 42 (0, 0)) from (hW.block _ (by rw [hwb]; simp)).trans (by rw [hwb]; exact heap_alloc_new w _))
  have HTI := Aside0.mk (fun (W : World) (hW : Below wb.heap.size wb W) => show W.cell? ⟨w.heap.size, 2, none⟩ = some (.int .i64 ti) by have hh := HBX.out W hW; simp [World.cell?, hh])
  have HKD := Aside0.mk (fun (W : World) (hW : Below wb.heap.size wb W) => show W.cell? ⟨w.heap.size, 0, none⟩ = some (.int .i64 kd) by have hh := HBX.out W hW; simp [World.cell?, hh])
  have HD := Aside0.mk (fun (W : World) (hW : Below wb.heap.size wb W) => show DiskAt W ok1 d A from hD.keep (fun k hk _ => (hW.block k (Nat.lt_of_lt_of_le hk hbw.size)).trans (hbw.block k hk)))
  have HR := Aside0.mk (fun (W : World) (hW : Below wb.heap.size wb W) => show RDisk W ok2 x R from hR.keep (fun k hk _ => (hW.block k (Nat.lt_of_lt_of_le hk hbw.size)).trans (hbw.block k hk)))
  have HW := Aside0.mk (And.intro hwb (And.intro hbw (And.intro hB (And.intro hsz (And.intro hn hkL)))))
  have HP := Aside0.mk hP
  clear hD hR hB hP hbw hsz hn hkL hd1 hd2
  have hh := HBX.out wb (Below.refl _ _)
  have c0 : wb.cell? ⟨w.heap.size, 1, none⟩ = some (.int .i64 ni) := by simp [World.cell?, hh]
  have c1 : wb.cell? ⟨w.heap.size, 2, none⟩ = some (.int .i64 ti) := by simp [World.cell?, hh]
  clear hh
  have HWB := Aside0.mk hwb.symm
  clear hwb
  go_enter Try.func18, Try.ntmps18
  go_wp2_with fail
  change Code.wp _ _ _ _ (w.alloc (.cells (opC kd ni ti n BA l c) 42))
  rw [HWB.out]
  have HCUR := Aside0.mk (show Below wb.heap.size wb wb.drew from below_drew (Below.refl _ _))
  go_region_with (go_at_call 33; refine (name_calls _ _).mono ?_; rintro _ w2 ⟨k2, hk2, rfl, hb2⟩; have HC2 := Aside0.mk (Below.trans HCUR.out (hb2.mono HCUR.out.size)); have c2 := HTI.out w2 HC2.out; clear HCUR hb2; have HCUR := HC2; clear HC2)
  all_goals
    have c3 := HKD.out w2 HCUR.out
    clear c0 c1 c2
    have HB2 := Aside0.mk (show Below B w w2 from (HW.out.2.1.mono HW.out.2.2.1).trans (HCUR.out.mono (Nat.le_trans HW.out.2.2.1 HW.out.2.1.size)))
    have HS2 := Aside0.mk (show w.heap.size < w2.heap.size from Nat.lt_of_lt_of_le HW.out.2.2.2.1 HCUR.out.size)
    have hD2 : DiskAt w2 (fun k => ok1 k ∨ w2.heap.size ≤ k) d A := (HD.out w2 HCUR.out).mono fun k _ h => .inl h
    have HD2 := Aside0.mk hD2
    have HR2 := Aside0.mk (HR.out w2 HCUR.out)
    clear hD2
    go_wp2_with fail
    refine (read_brow (fun k => ok1 k ∨ w2.heap.size ≤ k) d A (nmB _) w2 HD2.out (nmB_max _) HP.out.fa HW.out.2.2.2.2.2.2).mono ?_
    rintro _ w3 ⟨N, RA, rc, sm, rfl, hN, hbr, hb3⟩
    have HBR := Aside0.mk hbr
    have HN := Aside0.mk hN
    have HB3 := Aside0.mk hb3
    have HTW := Aside0.mk (show Twin B w2 d x A R from ⟨ok1, ok2, fun k hk => ⟨(HOK.out.1 k hk).1, Nat.lt_trans (HOK.out.1 k hk).2.1 HS2.out, (HOK.out.1 k hk).2.2⟩, fun k hk => ⟨(HOK.out.2 k hk).1, Nat.lt_trans (HOK.out.2 k hk).2 HS2.out⟩, HD.out w2 HCUR.out, HR2.out⟩)
    clear hbr hb3 hN
    go_wp2_with fail
    go_loopw [14, 33] (fun _ v wr => ∃ i : Nat, v = .int .i64 (i : Int) ∧ Aside0 (i ≤ N) ∧ Aside0 (BRow wr RA N (fun k => w2.heap.size ≤ k)) ∧ Aside0 (Kp (fun k => w2.heap.size ≤ k) w3 wr)) (fun _ v _ => N - (intOf v).toNat)
    case atStart => exact ⟨0, rfl, Aside0.mk (Nat.zero_le _), HBR, Aside0.mk (Kp.refl _ _)⟩
    case round =>
      obtain ⟨i, rfl, HIN, HRB, HK⟩ := hrel
      by_cases hin : i < N
      · have d1 : decide ((i : Int) < (N : Int)) = true := decide_eq_true (by omega)
        have hin2 : (i : Int) < (N : Int) := by omega
        have hi0 : (0 : Int) ≤ (i : Int) := by omega
        obtain ⟨g, z, rfl, hg, pz, fz⟩ := HRB.out.at hin
        have HG := Aside0.mk hg
        have HI' := Aside0.mk hin
        have hwi : wrap64 ((i : Int) + 1) = ((i + 1 : Nat) : Int) := by have := HN.out; have := HI'.out; unfold wrap64; omega
        clear hin hg
        go_wp2_with fail
        go_roundw
        case rel => exact ⟨i + 1, by first | rw [hwi] | rfl, Aside0.mk HI'.out, Aside0.mk (HRB.out.set i _), Aside0.mk (HK.out.setCell (p := ⟨g, i, none⟩) HG.out _)⟩
        case measure => first | (rw [hwi]; simp [intOf]; have := HI'.out; omega) | (simp [intOf]; have := HI'.out; omega)
      · have d1 : decide ((i : Int) < (N : Int)) = false := decide_eq_false (by omega)
        have hin2 : ¬ ((i : Int) < (N : Int)) := by omega
        go_wp2_with fail
        go_ret
        have hb4 : Below w2.heap.size w2 wr := HB3.out.trans (HK.out.below HB3.out.size (fun _ h => h))
        exact ⟨rfl, ⟨A, R, HP.out.same l, HTW.out.below hb4⟩, HB2.out.trans (hb4.mono (Nat.le_trans HW.out.2.2.1 (Nat.le_of_lt HS2.out)))⟩

end Go.Proofs.Ytgpinkgfgkolfaa.PD

namespace Go.Proofs.Ytgpinkgfgkolfaa.PD
open Go.RowKit Go.Proofs.YtgpinkgfgkolfaaW.PrintWords Go.Proofs.YtgpinkgfgkolfaaW.PrintLast Go.Proofs.YtgpinkgfgkolfaaW.PrintMore
set_option linter.unusedVariables false
set_option linter.unusedSimpArgs false
set_option maxHeartbeats 4000000
set_option maxRecDepth 100000

open Go.Proofs

set_option maxHeartbeats 16000000 in
theorem ts_write (B x d k L : Nat) (bs : List UInt8) (A : Ab) (R : Rb) (kd ni ti n : Int) (BA : Option Addr) (c : Nat) (w : World) (h : Twin B w d x A R) (hP : PS k L A R) (hB : B ≤ w.heap.size) (hkd : (IntKind.u64.wrap kd).tmod 9 = 0)
    (hn : -9223372036854775808 ≤ n ∧ n ≤ 9223372036854775807) (hs : ∀ W, Below B w W → SrcAt W (.slice BA bs.length c) bs) (hbl : bs.length ≤ 1000) (hkL : k ≤ 1000000 ∧ L ≤ 1000000) :
    Calls Try.prog 18 #[fptr d, fptr x, opV kd ni ti n BA bs.length c] w fun e w' => e = .returned (.bool true) ∧ TQ B x d k L bs.length w w' := by
  have HBL := Aside0.mk hbl
  have HS := Aside0.mk hs
  obtain ⟨l, hl⟩ : ∃ l, l = bs.length := ⟨_, rfl⟩
  rw [← hl]
  have HL := Aside0.mk hl
  clear hbl hs hl
  obtain ⟨wb, hwb⟩ : ∃ W, W = w.alloc (.cells (opC kd ni ti n BA l c) 42) := ⟨_, rfl⟩
  have hbw : Below w.heap.size w wb := by rw [hwb]; exact below_alloc (Below.refl _ _) _
  have hsz : w.heap.size < wb.heap.size := by rw [hwb]; simp
  obtain ⟨ok1, ok2, hd1, hd2, hD, hR⟩ := h
  have HOK := Aside0.mk (And.intro hd1 hd2)
  have HBX := Aside0.mk (fun (W : World) (hW : Below wb.heap.size wb W) => show W.heap[w.heap.size]? = some (.cells (opC kd ni ti n BA l c) 42 (0, 0)) from (hW.block _ (by rw [hwb]; simp)).trans (by rw [hwb]; exact heap_alloc_new w _))
  have HTI := Aside0.mk (fun (W : World) (hW : Below wb.heap.size wb W) => show W.cell? ⟨w.heap.size, 2, none⟩ = some (.int .i64 ti) by have hh := HBX.out W hW; simp [World.cell?, hh])
  have HKD := Aside0.mk (fun (W : World) (hW : Below wb.heap.size wb W) => show W.cell? ⟨w.heap.size, 0, none⟩ = some (.int .i64 kd) by have hh := HBX.out W hW; simp [World.cell?, hh])
  have HD := Aside0.mk (fun (W : World) (hW : Below wb.heap.size wb W) => show DiskAt W ok1 d A from hD.keep (fun k hk _ => (hW.block k (Nat.lt_of_lt_of_le hk hbw.size)).trans (hbw.block k hk)))
  have HR := Aside0.mk (fun (W : World) (hW : Below wb.heap.size wb W) => show RDisk W ok2 x R from hR.keep (fun k hk _ => (hW.block k (Nat.lt_of_lt_of_le hk hbw.size)).trans (hbw.block k hk)))
  have HW := Aside0.mk (And.intro hwb (And.intro hbw (And.intro hB (And.intro hsz (And.intro hn hkL)))))
  have HP := Aside0.mk hP
  clear hD hR hB hP hbw hsz hn hkL hd1 hd2
  have hh := HBX.out wb (Below.refl _ _)
  have c0 : wb.cell? ⟨w.heap.size, 1, none⟩ = some (.int .i64 ni) := by simp [World.cell?, hh]
  have c1 : wb.cell? ⟨w.heap.size, 2, none⟩ = some (.int .i64 ti) := by simp [World.cell?, hh]
  clear hh
  have HWB := Aside0.mk hwb.symm
  clear hwb
  go_enter Try.func18, Try.ntmps18
  go_wp2_with fail
  change Code.wp _ _ _ _ (w.alloc (.cells (opC kd ni ti n BA l c) 42))
  rw [HWB.out]
  have HCUR := Aside0.mk (show Below wb.heap.size wb wb.drew from below_drew (Below.refl _ _))
  go_region_with (go_at_call 33; refine (name_calls _ _).mono ?_; rintro _ w2 ⟨k2, hk2, rfl, hb2⟩; have HC2 := Aside0.mk (Below.trans HCUR.out (hb2.mono HCUR.out.size)); have c2 := HTI.out w2 HC2.out; clear HCUR hb2; have HCUR := HC2; clear HC2)
  all_goals
    have c3 := HKD.out w2 HCUR.out
    clear c0 c1 c2
    have HB2 := Aside0.mk (show Below B w w2 from (HW.out.2.1.mono HW.out.2.2.1).trans (HCUR.out.mono (Nat.le_trans HW.out.2.2.1 HW.out.2.1.size)))
    have HS2 := Aside0.mk (show w.heap.size < w2.heap.size from Nat.lt_of_lt_of_le HW.out.2.2.2.1 HCUR.out.size)
    have hD2 : DiskAt w2 (fun k => ok1 k ∨ w2.heap.size ≤ k) d A := (HD.out w2 HCUR.out).mono fun k _ h => .inl h
    have HD2 := Aside0.mk hD2
    have HR2 := Aside0.mk (HR.out w2 HCUR.out)
    clear hD2
    have hh := HBX.out w2 HCUR.out
    have hh2 := (Below.heap_alloc w2 (.cells #[] 5) _ HS2.out).trans hh
    have c4 : (w2.alloc (.cells #[] 5)).cell? ⟨w.heap.size, 4, none⟩ = some (.slice BA l c) := by simp [World.cell?, hh2]
    clear hh hh2
    obtain ⟨RA, rc, w3, r, hrun, hrow, hr1, hr2, hb3⟩ := own_row w2 BA c bs (HS.out _ (HB2.out.trans ((below_alloc (Below.refl _ _) _).mono (Nat.le_trans HW.out.2.2.1 (Nat.le_of_lt HS2.out))))) HBL.out
    rw [← HL.out] at hrun hrow
    have HRUN := Aside0.mk hrun
    have HROW := Aside0.mk hrow
    have HRR := Aside0.mk (And.intro hr1 hr2)
    have HB3 := Aside0.mk hb3
    clear hrun hrow hr1 hr2 hb3 HD2 HR2
    go_wp2_with (at_builtin; refine wpList_append_run rfl _ _ 29 rfl _ _ _ _ rfl rfl HRUN.out ?_)
    have HC3 := Aside0.mk (show Below wb.heap.size wb w3 from HCUR.out.trans (HB3.out.mono HCUR.out.size))
    have HS3 := Aside0.mk (show w.heap.size < w3.heap.size from Nat.lt_of_lt_of_le HS2.out HB3.out.size)
    have HB3' := Aside0.mk (show Below B w w3 from HB2.out.trans (HB3.out.mono (Nat.le_trans HW.out.2.2.1 (Nat.le_of_lt HS2.out))))
    have HD3 := Aside0.mk (show DiskAt w3 (fun k => ok1 k ∨ w3.heap.size ≤ k) d A from (HD.out w3 HC3.out).mono fun k _ h => .inl h)
    have HR3 := Aside0.mk (HR.out w3 HC3.out)
    have HNR := Aside0.mk (show ¬ (ok1 r ∨ w3.heap.size ≤ r) ∧ ¬ ok2 r from ⟨fun e => e.elim (fun e => by have := (HOK.out.1 r e).2.1; have := HRR.out; have := HS2.out; omega) (fun e => by have := HRR.out; omega), fun e => by have := (HOK.out.2 r e).2; have := HRR.out; have := HS2.out; omega⟩)
    have hw := fun kk : Nat => write_calls (fun k => ok1 k ∨ w3.heap.size ≤ k) d A (nmB kk) (.slice RA l rc) bs w3 HD3.out (fun k hk => .inr hk) (nmB_max _) (by have := HP.out.fa.dir; have := HW.out.2.2.2.2.2; omega) HP.out.fa.room HP.out.fa.left
      (fun W hW => (HROW.out.keep (fun g cur hg hh => hW.block g (Array.getElem?_eq_some_iff.1 hh).1 (fun e => HNR.out.1 (hg ▸ e)))).src) (fun f hf => by have := (HP.out.fa.len f).2; have := HW.out.2.2.2.2.2; have := HBL.out; omega) (by have := HBL.out; omega)
    refine (hw _).mono ?_
    rintro _ w4 ⟨fN, hfN, rfl, hD4, hk4⟩
    clear hw
    have HD4 := Aside0.mk hD4
    have HK4 := Aside0.mk hk4
    have HR4 := Aside0.mk (two_ref HOK.out (Nat.le_of_lt HS3.out) HR3.out hk4)
    have HFN := Aside0.mk hfN
    have HBR := Aside0.mk ((BRow.of (HROW.out.keep (fun g cur hg hh => hk4.block g (Array.getElem?_eq_some_iff.1 hh).1 (fun e => HNR.out.1 (hg ▸ e))))).2)
    have HN := Aside0.mk (show l ≤ 1000000 by have := HL.out; have := HBL.out; omega)
    clear hD4 hk4 hfN c3
    go_wp2_with fail
    go_loopw [11, 55] (fun _ v wr => ∃ i : Nat, v = .int .i64 (i : Int) ∧ Aside0 (i ≤ l) ∧ Aside0 (BRow wr RA l (fun k => k = r)) ∧ Aside0 (Kp (fun k => k = r) w4 wr)) (fun _ v _ => l - (intOf v).toNat)
    case atStart => exact ⟨0, rfl, Aside0.mk (Nat.zero_le _), HBR, Aside0.mk (Kp.refl _ _)⟩
    case round =>
      obtain ⟨i, rfl, HIN, HRB, HK⟩ := hrel
      by_cases hin : i < l
      · have d1 : decide ((i : Int) < (l : Int)) = true := decide_eq_true (by omega)
        have hin2 : (i : Int) < (l : Int) := by omega
        have hi0 : (0 : Int) ≤ (i : Int) := by omega
        obtain ⟨g, z, rfl, hg, pz, fz⟩ := HRB.out.at hin
        have HG := Aside0.mk hg
        have HI' := Aside0.mk hin
        have hwi : wrap64 ((i : Int) + 1) = ((i + 1 : Nat) : Int) := by have := HN.out; have := HI'.out; unfold wrap64; omega
        clear hin hg
        go_wp2_with fail
        go_roundw
        case rel => exact ⟨i + 1, by first | rw [hwi] | rfl, Aside0.mk HI'.out, Aside0.mk (HRB.out.set i _), Aside0.mk (HK.out.setCell (p := ⟨g, i, none⟩) HG.out _)⟩
        case measure => first | (rw [hwi]; simp [intOf]; have := HI'.out; omega) | (simp [intOf]; have := HI'.out; omega)
      · have d1 : decide ((i : Int) < (l : Int)) = false := decide_eq_false (by omega)
        have hin2 : ¬ ((i : Int) < (l : Int)) := by omega
        have s4 := HK4.out.size
        have hbr : wr.heap[w.heap.size]? = some (.cells (opC kd ni ti n BA l c) 42 (0, 0)) := (HK.out.block _ (by have := HS3.out; omega) (fun e => by have := HS2.out; have := HRR.out; omega)).trans ((HK4.out.block _ HS3.out (fun e => e.elim (fun e => by have := (HOK.out.1 _ e).2.1; omega) (fun e => by have := HS3.out; omega))).trans (HBX.out w3 HC3.out))
        have c5 : wr.cell? ⟨w.heap.size, 4, none⟩ = some (.slice BA l c) := by simp [World.cell?, hbr]
        have hb4 : Below B w wr := (HB3'.out.trans (HK4.out.below (by have := HW.out.2.2.1; have := HS3.out; omega) (fun k hk => hk.elim (fun e => (HOK.out.1 k e).1) (fun e => by have := HW.out.2.2.1; have := HS3.out; omega)))).trans (HK.out.below (by have := HW.out.2.2.1; have := HS3.out; omega) (fun k h => by have := HW.out.2.2.1; have := HS2.out; have := HRR.out; omega))
        have hD5 : DiskAt wr (fun k => ok1 k ∨ w3.heap.size ≤ k) d _ := HD4.out.keep fun k _ ho => HK.out.block k (by omega) (fun e => HNR.out.1 (e ▸ ho))
        have hR5 : RDisk wr (fun k => ok2 k ∨ wr.heap.size ≤ k) x R := ((((HR3.out.keep (w' := w4) fun k hl ho => HK4.out.block k hl (fun e => e.elim (fun e => (HOK.out.1 k e).2.2 ho) (fun e => by omega)))).keep (w' := wr) fun k hl ho => HK.out.block k hl (fun e => HNR.out.2 (e ▸ ho)))).mono fun k _ ho => .inl ho
        have hrw := fun kk : Nat => rwrite_calls (fun k => ok2 k ∨ wr.heap.size ≤ k) x R (nmB kk) (.slice BA bs.length c) bs wr hR5 (fun k hk => .inr hk) HP.out.fr (by have := HW.out.2.2.2.2.2; omega) (by have := HW.out.2.2.2.2.2; have := HBL.out; omega) (nmB_max _) (fun W hW => HS.out W (hb4.trans (hW.below (Nat.le_trans HW.out.2.2.1 hb4.size) (fun k h => h.elim (fun h => (HOK.out.2 k h).1) (fun h => Nat.le_trans (Nat.le_trans HW.out.2.2.1 hb4.size) h)))))
        rw [← HL.out] at hrw
        have HRW := Aside0.mk hrw
        have HD5 := Aside0.mk hD5
        have HB4 := Aside0.mk hb4
        have HK45 := Aside0.mk (show Kp (fun k => (ok1 k ∨ w3.heap.size ≤ k) ∨ k = r) w3 wr from (HK4.out.mono fun k h => .inl h).trans (HK.out.mono fun k h => .inr h))
        clear hbr hb4 hD5 hR5 hrw s4
        go_wp2_with fail
        refine (HRW.out _).mono ?_
        rintro _ w5 ⟨rfl, hR6, hk6⟩
        rw [← (HP.out.write HD3.out (nmB_no _) bs HL.out fN HFN.out).1]
        have HR6 := Aside0.mk hR6
        have HK6 := Aside0.mk hk6
        clear hR6 hk6
        go_wp2_with fail
        go_ret
        have s4 := HK45.out.size
        have s5 := HK6.out.size
        refine ⟨rfl, ⟨_, _, (HP.out.write HD3.out (nmB_no _) bs HL.out fN HFN.out).2, fun k => (ok1 k ∨ w3.heap.size ≤ k) ∧ k < wr.heap.size, fun k => (ok2 k ∨ wr.heap.size ≤ k) ∧ k < w5.heap.size, fun k hk => ⟨?_, by have := hk.2; omega, fun e => ?_⟩, fun k hk => ⟨?_, hk.2⟩, HD5.out.bound.keep fun k hl hk => HK6.out.block k hl (fun e => ?_), HR6.out.bound⟩, HB4.out.trans (HK6.out.below (Nat.le_trans HW.out.2.2.1 HB4.out.size) (fun k hk => ?_))⟩
        · exact hk.1.elim (fun e => (HOK.out.1 k e).1) (fun e => by have := HW.out.2.2.1; have := HS3.out; omega)
        · exact e.1.elim (fun e => hk.1.elim (fun e' => (HOK.out.1 k e').2.2 e) (fun e' => by have := (HOK.out.2 k e).2; have := HS3.out; omega)) (fun e => by have := hk.2; omega)
        · exact hk.1.elim (fun e => (HOK.out.2 k e).1) (fun e => by have := HW.out.2.2.1; have := HS3.out; omega)
        · exact e.elim (fun e => hk.1.elim (fun e' => (HOK.out.1 k e').2.2 e) (fun e' => by have := (HOK.out.2 k e).2; have := HS3.out; omega)) (fun e => by have := hk.2; omega)
        · exact hk.elim (fun e => (HOK.out.2 k e).1) (fun e => by have := HW.out.2.2.1; have := HS3.out; omega)

end Go.Proofs.Ytgpinkgfgkolfaa.PD
