/- The law's step, kind 6. -/
import Derived.Test.YtgpinkgfgkolfaaStepP
import Derived.Deep.RegionWith
namespace Go.Proofs.Ytgpinkgfgkolfaa.PD
open Go.RowKit Go.Proofs.YtgpinkgfgkolfaaW.PrintWords Go.Proofs.YtgpinkgfgkolfaaW.PrintLast Go.Proofs.YtgpinkgfgkolfaaW.PrintMore
set_option linter.unusedVariables false
set_option linter.unusedSimpArgs false
set_option maxHeartbeats 4000000
set_option maxRecDepth 100000

open Go.Proofs

set_option maxHeartbeats 16000000 in
theorem step_crash (B x d q k L : Nat) (xs bs : List UInt8) (A : Ab) (kd ni ti n : Int) (BA : Option Addr) (c : Nat) (w : World) (h : DiskAt w (okX B x) d A) (hx : RAt w x 1048576) (hBx : B ≤ x) (hB : B ≤ w.heap.size) (hI : Inv q xs A) (hF : Fine k L A) (hqs : q < w.heap.size) (hkd : (IntKind.u64.wrap kd).tmod 9 = 6)
    (hn : -9223372036854775808 ≤ n ∧ n ≤ 9223372036854775807) (hs : ∀ W, Below B w W → SrcAt W (.slice BA bs.length c) bs) (hbl : bs.length ≤ 1000) (hkL : k ≤ 1000000 ∧ L ≤ 1000000) :
    Calls Try.prog 18 #[fptr d, fptr x, opV kd ni ti n BA bs.length c] w fun e w' => IsB e ∧ StepQ B x d q k L bs.length xs w w' := by
  have HBL := Aside0.mk hbl
  have HS := Aside0.mk hs
  obtain ⟨l, hl⟩ : ∃ l, l = bs.length := ⟨_, rfl⟩
  rw [← hl]
  have HL := Aside0.mk hl
  clear hbl hs hl
  obtain ⟨wb, hwb⟩ : ∃ W, W = w.alloc (.cells (opC kd ni ti n BA l c) 42) := ⟨_, rfl⟩
  have hbw : Below w.heap.size w wb := by rw [hwb]; exact below_alloc (Below.refl _ _) _
  have hsz : w.heap.size < wb.heap.size := by rw [hwb]; simp
  have HBX := Aside0.mk (fun (W : World) (hW : Below wb.heap.size wb W) => show W.heap[w.heap.size]? = some (.cells (opC kd ni ti n BA l c) 42 (0, 0)) from (hW.block _ (by rw [hwb]; simp)).trans (by rw [hwb]; exact heap_alloc_new w _))
  have HTI := Aside0.mk (fun (W : World) (hW : Below wb.heap.size wb W) => show W.cell? ⟨w.heap.size, 2, none⟩ = some (.int .i64 ti) by have hh := HBX.out W hW; simp [World.cell?, hh])
  have HKD := Aside0.mk (fun (W : World) (hW : Below wb.heap.size wb W) => show W.cell? ⟨w.heap.size, 0, none⟩ = some (.int .i64 kd) by have hh := HBX.out W hW; simp [World.cell?, hh])
  have HX := Aside0.mk (fun (W : World) (hW : Below wb.heap.size wb W) => show RAt W x 1048576 from ((hW.block _ (Nat.lt_of_lt_of_le (Array.getElem?_eq_some_iff.1 hx).1 hbw.size)).trans (hbw.block _ (Array.getElem?_eq_some_iff.1 hx).1)).trans hx)
  have HD := Aside0.mk (fun (W : World) (hW : Below wb.heap.size wb W) (r : Nat) (hr : w.heap.size ≤ r) => show DiskAt W (okN B x w.heap.size r) d A from (h.mono (ok' := okN B x w.heap.size r) (fun k hk ho => ⟨ho.1, ho.2, by omega, by omega⟩)).keep (fun k hk _ => (hW.block k (Nat.lt_of_lt_of_le hk hbw.size)).trans (hbw.block k hk)))
  have HW := Aside0.mk (And.intro hwb (And.intro hbw (And.intro hBx (And.intro hB (And.intro (Array.getElem?_eq_some_iff.1 hx).1 (And.intro hsz (And.intro hqs (And.intro hn hkL))))))))
  have HI := Aside0.mk hI
  have HF := Aside0.mk hF
  clear h hx hBx hB hI hF hbw hsz hqs hn hkL
  have hh := HBX.out wb (Below.refl _ _)
  have c0 : wb.cell? ⟨w.heap.size, 1, none⟩ = some (.int .i64 ni) := by simp [World.cell?, hh]
  have c1 : wb.cell? ⟨w.heap.size, 2, none⟩ = some (.int .i64 ti) := by simp [World.cell?, hh]
  clear hh
  have HWB := Aside0.mk hwb.symm
  clear hwb
  go_enter Try.func18, Try.ntmps18
  go_wp2_with fail
  change Code.wp _ _ _ _ (w.alloc (.cells (opC kd ni ti n BA l c) 42))
  rw [HWB.out]
  have HCUR := Aside0.mk (show Below wb.heap.size wb wb.drew from below_drew (Below.refl _ _))
  go_region_with (go_at_call 33; refine (name_calls _ _).mono ?_; rintro _ w2 ⟨k2, hk2, rfl, hb2⟩; have HC2 := Aside0.mk (Below.trans HCUR.out (hb2.mono HCUR.out.size)); have c2 := HTI.out w2 HC2.out; clear HCUR hb2; have HCUR := HC2; clear HC2)
  all_goals
    have c3 := HKD.out w2 HCUR.out
    clear c0 c1 c2
    have HB2 := Aside0.mk (show Below B w w2 from (HW.out.2.1.mono HW.out.2.2.2.1).trans (HCUR.out.mono (Nat.le_trans HW.out.2.2.2.1 HW.out.2.1.size)))
    have HS2 := Aside0.mk (show B ≤ w2.heap.size ∧ x < w2.heap.size ∧ w.heap.size < w2.heap.size ∧ q < w2.heap.size from ⟨by have := HCUR.out.size; have := HW.out.2.1.size; have := HW.out.2.2.2.1; omega, by have := HCUR.out.size; have := HW.out.2.1.size; have := HW.out.2.2.2.2.1; omega, by have := HCUR.out.size; have := HW.out.2.2.2.2.2.1; omega, by have := HCUR.out.size; have := HW.out.2.1.size; have := HW.out.2.2.2.2.2.2.1; omega⟩)
    have HFR := Aside0.mk (show ∀ k, w2.heap.size ≤ k → okN B x w.heap.size w.heap.size k from fun k hk => ⟨by have := HS2.out.1; omega, by have := HS2.out.2.1; omega, by have := HS2.out.2.2.1; omega, by have := HS2.out.2.2.1; omega⟩)
    have hh := HBX.out w2 HCUR.out
    have c4 : w2.cell? ⟨w.heap.size, 3, none⟩ = some (.int .i64 n) := by simp [World.cell?, hh]
    clear hh
    go_wp2_with fail
    refine (crash_calls (okN B x w.heap.size w.heap.size) d A n w2 (HD.out w2 HCUR.out _ (Nat.le_refl _)) HFR.out (fun f hf => ⟨(HF.out.len f).1, by have := (HF.out.len f).2; have := HW.out.2.2.2.2.2.2.2.2.2; omega⟩)).mono ?_
    rintro _ w3 ⟨rfl, hD3, hk3⟩
    have hx3 : RAt w3 x 1048576 := (hk3.block x HS2.out.2.1 (fun e => e.2.1 rfl)).trans (HX.out w2 HCUR.out)
    have HR := Aside0.mk (rcrash_e x 1048576 n w3 hx3)
    have hh3 := (hk3.block w.heap.size HS2.out.2.2.1 (fun e => e.2.2.1 rfl)).trans (HBX.out w2 HCUR.out)
    have c5 : w3.cell? ⟨w.heap.size, 3, none⟩ = some (.int .i64 n) := by simp [World.cell?, hh3]
    clear hh3
    have HD3 := Aside0.mk hD3
    have HK3 := Aside0.mk hk3
    clear hx3 hD3 hk3
    go_wp2_with fail
    refine HR.out.mono ?_
    rintro _ w4 ⟨rfl, hk4⟩
    have HK4 := Aside0.mk (hk4.mono (ok' := fun k => k = x ∨ k = w.heap.size ∨ k = w.heap.size ∨ w3.heap.size ≤ k) (fun k h => by rcases h with h | h <;> simp [h]))
    clear hk4
    go_wp2_with fail
    go_ret
    exact ⟨⟨_, rfl⟩, step_fin HB2.out HS2.out.1 HW.out.2.2.1 HK3.out HD3.out HK4.out HW.out.2.2.2.1 HW.out.2.2.2.1 (HI.out.crash n) ((HF.out.crash n).mono (Nat.le_succ _) (Nat.le_add_right _ _))⟩

end Go.Proofs.Ytgpinkgfgkolfaa.PD

namespace Go.Proofs.Ytgpinkgfgkolfaa.PD
open Go.RowKit Go.Proofs.YtgpinkgfgkolfaaW.PrintWords Go.Proofs.YtgpinkgfgkolfaaW.PrintLast Go.Proofs.YtgpinkgfgkolfaaW.PrintMore
set_option linter.unusedVariables false
set_option linter.unusedSimpArgs false
set_option maxHeartbeats 4000000
set_option maxRecDepth 100000

open Go.Proofs

set_option maxHeartbeats 16000000 in
theorem step_fail (B x d q k L : Nat) (xs bs : List UInt8) (A : Ab) (kd ni ti n : Int) (BA : Option Addr) (c : Nat) (w : World) (h : DiskAt w (okX B x) d A) (hx : RAt w x 1048576) (hBx : B ≤ x) (hB : B ≤ w.heap.size) (hI : Inv q xs A) (hF : Fine k L A) (hqs : q < w.heap.size) (hkd : (IntKind.u64.wrap kd).tmod 9 = 7)
    (hn : -9223372036854775808 ≤ n ∧ n ≤ 9223372036854775807) (hs : ∀ W, Below B w W → SrcAt W (.slice BA bs.length c) bs) (hbl : bs.length ≤ 1000) (hkL : k ≤ 1000000 ∧ L ≤ 1000000) :
    Calls Try.prog 18 #[fptr d, fptr x, opV kd ni ti n BA bs.length c] w fun e w' => IsB e ∧ StepQ B x d q k L bs.length xs w w' := by
  have HBL := Aside0.mk hbl
  have HS := Aside0.mk hs
  obtain ⟨l, hl⟩ : ∃ l, l = bs.length := ⟨_, rfl⟩
  rw [← hl]
  have HL := Aside0.mk hl
  clear hbl hs hl
  obtain ⟨wb, hwb⟩ : ∃ W, W = w.alloc (.cells (opC kd ni ti n BA l c) 42) := ⟨_, rfl⟩
  have hbw : Below w.heap.size w wb := by rw [hwb]; exact below_alloc (Below.refl _ _) _
  have hsz : w.heap.size < wb.heap.size := by rw [hwb]; simp
  have HBX := Aside0.mk (fun (W : World) (hW : Below wb.heap.size wb W) => show W.heap[w.heap.size]? = some (.cells (opC kd ni ti n BA l c) 42 (0, 0)) from (hW.block _ (by rw [hwb]; simp)).trans (by rw [hwb]; exact heap_alloc_new w _))
  have HTI := Aside0.mk (fun (W : World) (hW : Below wb.heap.size wb W) => show W.cell? ⟨w.heap.size, 2, none⟩ = some (.int .i64 ti) by have hh := HBX.out W hW; simp [World.cell?, hh])
  have HKD := Aside0.mk (fun (W : World) (hW : Below wb.heap.size wb W) => show W.cell? ⟨w.heap.size, 0, none⟩ = some (.int .i64 kd) by have hh := HBX.out W hW; simp [World.cell?, hh])
  have HX := Aside0.mk (fun (W : World) (hW : Below wb.heap.size wb W) => show RAt W x 1048576 from ((hW.block _ (Nat.lt_of_lt_of_le (Array.getElem?_eq_some_iff.1 hx).1 hbw.size)).trans (hbw.block _ (Array.getElem?_eq_some_iff.1 hx).1)).trans hx)
  have HD := Aside0.mk (fun (W : World) (hW : Below wb.heap.size wb W) (r : Nat) (hr : w.heap.size ≤ r) => show DiskAt W (okN B x w.heap.size r) d A from (h.mono (ok' := okN B x w.heap.size r) (fun k hk ho => ⟨ho.1, ho.2, by omega, by omega⟩)).keep (fun k hk _ => (hW.block k (Nat.lt_of_lt_of_le hk hbw.size)).trans (hbw.block k hk)))
  have HW := Aside0.mk (And.intro hwb (And.intro hbw (And.intro hBx (And.intro hB (And.intro (Array.getElem?_eq_some_iff.1 hx).1 (And.intro hsz (And.intro hqs (And.intro hn hkL))))))))
  have HI := Aside0.mk hI
  have HF := Aside0.mk hF
  clear h hx hBx hB hI hF hbw hsz hqs hn hkL
  have hh := HBX.out wb (Below.refl _ _)
  have c0 : wb.cell? ⟨w.heap.size, 1, none⟩ = some (.int .i64 ni) := by simp [World.cell?, hh]
  have c1 : wb.cell? ⟨w.heap.size, 2, none⟩ = some (.int .i64 ti) := by simp [World.cell?, hh]
  clear hh
  have HWB := Aside0.mk hwb.symm
  clear hwb
  go_enter Try.func18, Try.ntmps18
  go_wp2_with fail
  change Code.wp _ _ _ _ (w.alloc (.cells (opC kd ni ti n BA l c) 42))
  rw [HWB.out]
  have HCUR := Aside0.mk (show Below wb.heap.size wb wb.drew from below_drew (Below.refl _ _))
  go_region_with (go_at_call 33; refine (name_calls _ _).mono ?_; rintro _ w2 ⟨k2, hk2, rfl, hb2⟩; have HC2 := Aside0.mk (Below.trans HCUR.out (hb2.mono HCUR.out.size)); have c2 := HTI.out w2 HC2.out; clear HCUR hb2; have HCUR := HC2; clear HC2)
  all_goals
    have c3 := HKD.out w2 HCUR.out
    clear c0 c1 c2
    have HB2 := Aside0.mk (show Below B w w2 from (HW.out.2.1.mono HW.out.2.2.2.1).trans (HCUR.out.mono (Nat.le_trans HW.out.2.2.2.1 HW.out.2.1.size)))
    have HS2 := Aside0.mk (show B ≤ w2.heap.size ∧ x < w2.heap.size ∧ w.heap.size < w2.heap.size ∧ q < w2.heap.size from ⟨by have := HCUR.out.size; have := HW.out.2.1.size; have := HW.out.2.2.2.1; omega, by have := HCUR.out.size; have := HW.out.2.1.size; have := HW.out.2.2.2.2.1; omega, by have := HCUR.out.size; have := HW.out.2.2.2.2.2.1; omega, by have := HCUR.out.size; have := HW.out.2.1.size; have := HW.out.2.2.2.2.2.2.1; omega⟩)
    have HFR := Aside0.mk (show ∀ k, w2.heap.size ≤ k → okN B x w.heap.size w.heap.size k from fun k hk => ⟨by have := HS2.out.1; omega, by have := HS2.out.2.1; omega, by have := HS2.out.2.2.1; omega, by have := HS2.out.2.2.1; omega⟩)
    have hh := HBX.out w2 HCUR.out
    have c4 : w2.cell? ⟨w.heap.size, 3, none⟩ = some (.int .i64 n) := by simp [World.cell?, hh]
    clear hh
    go_wp2_with fail
    refine (fail_calls (okN B x w.heap.size w.heap.size) d A n w2 (HD.out w2 HCUR.out _ (Nat.le_refl _))).mono ?_
    rintro _ w3 ⟨rfl, hD3, hk3⟩
    have hx3 : RAt w3 x 1048576 := (hk3.block x HS2.out.2.1 (fun e => e.2.1 rfl)).trans (HX.out w2 HCUR.out)
    have HR := Aside0.mk (rfail_e x 1048576 n w3 hx3)
    have hh3 := (hk3.block w.heap.size HS2.out.2.2.1 (fun e => e.2.2.1 rfl)).trans (HBX.out w2 HCUR.out)
    have c5 : w3.cell? ⟨w.heap.size, 3, none⟩ = some (.int .i64 n) := by simp [World.cell?, hh3]
    clear hh3
    have HD3 := Aside0.mk hD3
    have HK3 := Aside0.mk hk3
    clear hx3 hD3 hk3
    go_wp2_with fail
    refine HR.out.mono ?_
    rintro _ w4 ⟨rfl, hk4⟩
    have HK4 := Aside0.mk (hk4.mono (ok' := fun k => k = x ∨ k = w.heap.size ∨ k = w.heap.size ∨ w3.heap.size ≤ k) (fun k h => by rcases h with h | h <;> simp [h]))
    clear hk4
    go_wp2_with fail
    go_ret
    exact ⟨⟨_, rfl⟩, step_fin HB2.out HS2.out.1 HW.out.2.2.1 HK3.out HD3.out HK4.out HW.out.2.2.2.1 HW.out.2.2.2.1 (HI.out.fail n) ((HF.out.fail n HW.out.2.2.2.2.2.2.2.1).mono (Nat.le_succ _) (Nat.le_add_right _ _))⟩

end Go.Proofs.Ytgpinkgfgkolfaa.PD

namespace Go.Proofs.Ytgpinkgfgkolfaa.PD
open Go.RowKit Go.Proofs.YtgpinkgfgkolfaaW.PrintWords Go.Proofs.YtgpinkgfgkolfaaW.PrintLast Go.Proofs.YtgpinkgfgkolfaaW.PrintMore
set_option linter.unusedVariables false
set_option linter.unusedSimpArgs false
set_option maxHeartbeats 4000000
set_option maxRecDepth 100000

open Go.Proofs

set_option maxHeartbeats 16000000 in
theorem step_cut (B x d q k L : Nat) (xs bs : List UInt8) (A : Ab) (kd ni ti n : Int) (BA : Option Addr) (c : Nat) (w : World) (h : DiskAt w (okX B x) d A) (hx : RAt w x 1048576) (hBx : B ≤ x) (hB : B ≤ w.heap.size) (hI : Inv q xs A) (hF : Fine k L A) (hqs : q < w.heap.size) (hkd : (IntKind.u64.wrap kd).tmod 9 = 1)
    (hn : -9223372036854775808 ≤ n ∧ n ≤ 9223372036854775807) (hs : ∀ W, Below B w W → SrcAt W (.slice BA bs.length c) bs) (hbl : bs.length ≤ 1000) (hkL : k ≤ 1000000 ∧ L ≤ 1000000) :
    Calls Try.prog 18 #[fptr d, fptr x, opV kd ni ti n BA bs.length c] w fun e w' => IsB e ∧ StepQ B x d q k L bs.length xs w w' := by
  have HBL := Aside0.mk hbl
  have HS := Aside0.mk hs
  obtain ⟨l, hl⟩ : ∃ l, l = bs.length := ⟨_, rfl⟩
  rw [← hl]
  have HL := Aside0.mk hl
  clear hbl hs hl
  obtain ⟨wb, hwb⟩ : ∃ W, W = w.alloc (.cells (opC kd ni ti n BA l c) 42) := ⟨_, rfl⟩
  have hbw : Below w.heap.size w wb := by rw [hwb]; exact below_alloc (Below.refl _ _) _
  have hsz : w.heap.size < wb.heap.size := by rw [hwb]; simp
  have HBX := Aside0.mk (fun (W : World) (hW : Below wb.heap.size wb W) => show W.heap[w.heap.size]? = some (.cells (opC kd ni ti n BA l c) 42 (0, 0)) from (hW.block _ (by rw [hwb]; simp)).trans (by rw [hwb]; exact heap_alloc_new w _))
  have HTI := Aside0.mk (fun (W : World) (hW : Below wb.heap.size wb W) => show W.cell? ⟨w.heap.size, 2, none⟩ = some (.int .i64 ti) by have hh := HBX.out W hW; simp [World.cell?, hh])
  have HKD := Aside0.mk (fun (W : World) (hW : Below wb.heap.size wb W) => show W.cell? ⟨w.heap.size, 0, none⟩ = some (.int .i64 kd) by have hh := HBX.out W hW; simp [World.cell?, hh])
  have HX := Aside0.mk (fun (W : World) (hW : Below wb.heap.size wb W) => show RAt W x 1048576 from ((hW.block _ (Nat.lt_of_lt_of_le (Array.getElem?_eq_some_iff.1 hx).1 hbw.size)).trans (hbw.block _ (Array.getElem?_eq_some_iff.1 hx).1)).trans hx)
  have HD := Aside0.mk (fun (W : World) (hW : Below wb.heap.size wb W) (r : Nat) (hr : w.heap.size ≤ r) => show DiskAt W (okN B x w.heap.size r) d A from (h.mono (ok' := okN B x w.heap.size r) (fun k hk ho => ⟨ho.1, ho.2, by omega, by omega⟩)).keep (fun k hk _ => (hW.block k (Nat.lt_of_lt_of_le hk hbw.size)).trans (hbw.block k hk)))
  have HW := Aside0.mk (And.intro hwb (And.intro hbw (And.intro hBx (And.intro hB (And.intro (Array.getElem?_eq_some_iff.1 hx).1 (And.intro hsz (And.intro hqs (And.intro hn hkL))))))))
  have HI := Aside0.mk hI
  have HF := Aside0.mk hF
  clear h hx hBx hB hI hF hbw hsz hqs hn hkL
  have hh := HBX.out wb (Below.refl _ _)
  have c0 : wb.cell? ⟨w.heap.size, 1, none⟩ = some (.int .i64 ni) := by simp [World.cell?, hh]
  have c1 : wb.cell? ⟨w.heap.size, 2, none⟩ = some (.int .i64 ti) := by simp [World.cell?, hh]
  clear hh
  have HWB := Aside0.mk hwb.symm
  clear hwb
  go_enter Try.func18, Try.ntmps18
  go_wp2_with fail
  change Code.wp _ _ _ _ (w.alloc (.cells (opC kd ni ti n BA l c) 42))
  rw [HWB.out]
  have HCUR := Aside0.mk (show Below wb.heap.size wb wb.drew from below_drew (Below.refl _ _))
  go_region_with (go_at_call 33; refine (name_calls _ _).mono ?_; rintro _ w2 ⟨k2, hk2, rfl, hb2⟩; have HC2 := Aside0.mk (Below.trans HCUR.out (hb2.mono HCUR.out.size)); have c2 := HTI.out w2 HC2.out; clear HCUR hb2; have HCUR := HC2; clear HC2)
  all_goals
    have c3 := HKD.out w2 HCUR.out
    clear c0 c1 c2
    have HCX := Aside0.mk (HCUR.out.trans (below_drew (Below.refl wb.heap.size w2)))
    have HB2 := Aside0.mk (show Below B w w2.drew from (HW.out.2.1.mono HW.out.2.2.2.1).trans (HCX.out.mono (Nat.le_trans HW.out.2.2.2.1 HW.out.2.1.size)))
    have HS2 := Aside0.mk (show B ≤ w2.drew.heap.size ∧ x < w2.drew.heap.size ∧ w.heap.size < w2.drew.heap.size ∧ q < w2.drew.heap.size from ⟨by have := HCX.out.size; have := HW.out.2.1.size; have := HW.out.2.2.2.1; omega, by have := HCX.out.size; have := HW.out.2.1.size; have := HW.out.2.2.2.2.1; omega, by have := HCX.out.size; have := HW.out.2.2.2.2.2.1; omega, by have := HCX.out.size; have := HW.out.2.1.size; have := HW.out.2.2.2.2.2.2.1; omega⟩)
    have HFR := Aside0.mk (show ∀ k, w2.drew.heap.size ≤ k → okN B x w.heap.size w.heap.size k from fun k hk => ⟨by have := HS2.out.1; omega, by have := HS2.out.2.1; omega, by have := HS2.out.2.2.1; omega, by have := HS2.out.2.2.1; omega⟩)
    have hh := HBX.out w2.drew HCX.out
    have c4 : w2.drew.cell? ⟨w.heap.size, 3, none⟩ = some (.int .i64 n) := by simp only [World.cell?, hh]; rfl
    clear hh
    go_wp2_with fail
    go_region_with (first
      | (go_at_call 35; refine (cut_calls (okN B x w.heap.size w.heap.size) d A (nmB _) n w2.drew (HD.out w2.drew HCX.out _ (Nat.le_refl _)) HFR.out (nmB_max _) HF.out.left (fun f hf => by have := (HF.out.len f).2; have := HW.out.2.2.2.2.2.2.2.2.2; omega)).mono ?_; rintro _ w3 ⟨rfl, hD3, hk3⟩; have hx3 : RAt w3 x 1048576 := (hk3.block x HS2.out.2.1 (fun e => e.2.1 rfl)).trans (HX.out w2.drew HCX.out); have HR := Aside0.mk (fun nm => rcut_e x 1048576 nm n w3 hx3); have hh3 := (hk3.block w.heap.size HS2.out.2.2.1 (fun e => e.2.2.1 rfl)).trans (HBX.out w2.drew HCX.out); have c5 : w3.cell? ⟨w.heap.size, 3, none⟩ = some (.int .i64 n) := (by simp [World.cell?, hh3]); clear hh3; have HD3 := Aside0.mk hD3; have HK3 := Aside0.mk hk3; clear hx3 hD3 hk3)
      | (go_at_call 36; refine (HR.out _).mono ?_; rintro _ w4 ⟨⟨r, rfl⟩, hww⟩; subst hww))
    all_goals
      go_wp2_with fail
      go_ret
      exact ⟨⟨_, rfl⟩, step_fin HB2.out HS2.out.1 HW.out.2.2.1 HK3.out HD3.out (Kp.refl _ _) HW.out.2.2.2.1 HW.out.2.2.2.1 (HI.out.cut (nmB_ne _) n) ((HF.out.cut _ n).mono (Nat.le_succ _) (Nat.le_add_right _ _))⟩

end Go.Proofs.Ytgpinkgfgkolfaa.PD
