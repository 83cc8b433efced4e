/- The law's step, kind 8. -/
import Derived.Test.YtgpinkgfgkolfaaStepQ
import Derived.Deep.RegionWith
namespace Go.Proofs.Ytgpinkgfgkolfaa.PD
open Go.RowKit Go.Proofs.YtgpinkgfgkolfaaW.PrintWords Go.Proofs.YtgpinkgfgkolfaaW.PrintLast Go.Proofs.YtgpinkgfgkolfaaW.PrintMore
set_option linter.unusedVariables false
set_option linter.unusedSimpArgs false
set_option maxHeartbeats 4000000
set_option maxRecDepth 100000

open Go.Proofs

set_option maxHeartbeats 16000000 in
theorem step_read (B x d q k L : Nat) (xs bs : List UInt8) (A : Ab) (kd ni ti n : Int) (BA : Option Addr) (c : Nat) (w : World) (h : DiskAt w (okX B x) d A) (hx : RAt w x 1048576) (hBx : B ≤ x) (hB : B ≤ w.heap.size) (hI : Inv q xs A) (hF : Fine k L A) (hqs : q < w.heap.size) (hkd : (IntKind.u64.wrap kd).tmod 9 = 8)
    (hn : -9223372036854775808 ≤ n ∧ n ≤ 9223372036854775807) (hs : ∀ W, Below B w W → SrcAt W (.slice BA bs.length c) bs) (hbl : bs.length ≤ 1000) (hkL : k ≤ 1000000 ∧ L ≤ 1000000) :
    Calls Try.prog 18 #[fptr d, fptr x, opV kd ni ti n BA bs.length c] w fun e w' => IsB e ∧ StepQ B x d q k L bs.length xs w w' := by
  have HBL := Aside0.mk hbl
  have HS := Aside0.mk hs
  obtain ⟨l, hl⟩ : ∃ l, l = bs.length := ⟨_, rfl⟩
  rw [← hl]
  have HL := Aside0.mk hl
  clear hbl hs hl
  obtain ⟨wb, hwb⟩ : ∃ W, W = w.alloc (.cells (opC kd ni ti n BA l c) 42) := ⟨_, rfl⟩
  have hbw : Below w.heap.size w wb := by rw [hwb]; exact below_alloc (Below.refl _ _) _
  have hsz : w.heap.size < wb.heap.size := by rw [hwb]; simp
  have HBX := Aside0.mk (fun (W : World) (hW : Below wb.heap.size wb W) => show W.heap[w.heap.size]? = some (.cells (opC kd ni ti n BA l c) 42 (0, 0)) from (hW.block _ (by rw [hwb]; simp)).trans (by rw [hwb]; exact heap_alloc_new w _))
  have HTI := Aside0.mk (fun (W : World) (hW : Below wb.heap.size wb W) => show W.cell? ⟨w.heap.size, 2, none⟩ = some (.int .i64 ti) by have hh := HBX.out W hW; simp [World.cell?, hh])
  have HKD := Aside0.mk (fun (W : World) (hW : Below wb.heap.size wb W) => show W.cell? ⟨w.heap.size, 0, none⟩ = some (.int .i64 kd) by have hh := HBX.out W hW; simp [World.cell?, hh])
  have HX := Aside0.mk (fun (W : World) (hW : Below wb.heap.size wb W) => show RAt W x 1048576 from ((hW.block _ (Nat.lt_of_lt_of_le (Array.getElem?_eq_some_iff.1 hx).1 hbw.size)).trans (hbw.block _ (Array.getElem?_eq_some_iff.1 hx).1)).trans hx)
  have HD := Aside0.mk (fun (W : World) (hW : Below wb.heap.size wb W) (r : Nat) (hr : w.heap.size ≤ r) => show DiskAt W (okN B x w.heap.size r) d A from (h.mono (ok' := okN B x w.heap.size r) (fun k hk ho => ⟨ho.1, ho.2, by omega, by omega⟩)).keep (fun k hk _ => (hW.block k (Nat.lt_of_lt_of_le hk hbw.size)).trans (hbw.block k hk)))
  have HW := Aside0.mk (And.intro hwb (And.intro hbw (And.intro hBx (And.intro hB (And.intro (Array.getElem?_eq_some_iff.1 hx).1 (And.intro hsz (And.intro hqs (And.intro hn hkL))))))))
  have HI := Aside0.mk hI
  have HF := Aside0.mk hF
  clear h hx hBx hB hI hF hbw hsz hqs hn hkL
  have hh := HBX.out wb (Below.refl _ _)
  have c0 : wb.cell? ⟨w.heap.size, 1, none⟩ = some (.int .i64 ni) := by simp [World.cell?, hh]
  have c1 : wb.cell? ⟨w.heap.size, 2, none⟩ = some (.int .i64 ti) := by simp [World.cell?, hh]
  clear hh
  have HWB := Aside0.mk hwb.symm
  clear hwb
  go_enter Try.func18, Try.ntmps18
  go_wp2_with fail
  change Code.wp _ _ _ _ (w.alloc (.cells (opC kd ni ti n BA l c) 42))
  rw [HWB.out]
  have HCUR := Aside0.mk (show Below wb.heap.size wb wb.drew from below_drew (Below.refl _ _))
  go_region_with (go_at_call 33; refine (name_calls _ _).mono ?_; rintro _ w2 ⟨k2, hk2, rfl, hb2⟩; have HC2 := Aside0.mk (Below.trans HCUR.out (hb2.mono HCUR.out.size)); have c2 := HTI.out w2 HC2.out; clear HCUR hb2; have HCUR := HC2; clear HC2)
  all_goals
    have c3 := HKD.out w2 HCUR.out
    clear c0 c1 c2
    have HB2 := Aside0.mk (show Below B w w2 from (HW.out.2.1.mono HW.out.2.2.2.1).trans (HCUR.out.mono (Nat.le_trans HW.out.2.2.2.1 HW.out.2.1.size)))
    have HS2 := Aside0.mk (show B ≤ w2.heap.size ∧ x < w2.heap.size ∧ w.heap.size < w2.heap.size ∧ q < w2.heap.size from ⟨by have := HCUR.out.size; have := HW.out.2.1.size; have := HW.out.2.2.2.1; omega, by have := HCUR.out.size; have := HW.out.2.1.size; have := HW.out.2.2.2.2.1; omega, by have := HCUR.out.size; have := HW.out.2.2.2.2.2.1; omega, by have := HCUR.out.size; have := HW.out.2.1.size; have := HW.out.2.2.2.2.2.2.1; omega⟩)
    have HFR := Aside0.mk (show ∀ k, w2.heap.size ≤ k → okN B x w.heap.size w.heap.size k from fun k hk => ⟨by have := HS2.out.1; omega, by have := HS2.out.2.1; omega, by have := HS2.out.2.2.1; omega, by have := HS2.out.2.2.1; omega⟩)
    go_wp2_with fail
    refine (read_brow (okN B x w.heap.size w.heap.size) d A (nmB _) w2 (HD.out w2 HCUR.out _ (Nat.le_refl _)) (nmB_max _) HF.out HW.out.2.2.2.2.2.2.2.2.2).mono ?_
    rintro _ w3 ⟨N, RA, rc, sm, rfl, hN, hbr, hb3⟩
    have HR := Aside0.mk hbr
    have HN := Aside0.mk hN
    have HD3 := Aside0.mk ((HD.out w2 HCUR.out _ (Nat.le_refl _)).bound.keep (w' := w3) (fun k hk _ => hb3.block k hk))
    have HB3 := Aside0.mk hb3
    clear hbr hb3 hN
    go_wp2_with fail
    go_loopw [14, 33] (fun _ v wr => ∃ i : Nat, v = .int .i64 (i : Int) ∧ Aside0 (i ≤ N) ∧ Aside0 (BRow wr RA N (fun k => w2.heap.size ≤ k)) ∧ Aside0 (Kp (fun k => w2.heap.size ≤ k) w3 wr)) (fun _ v _ => N - (intOf v).toNat)
    case atStart => exact ⟨0, rfl, Aside0.mk (Nat.zero_le _), HR, Aside0.mk (Kp.refl _ _)⟩
    case round =>
      obtain ⟨i, rfl, HIN, HR, HK⟩ := hrel
      by_cases hin : i < N
      · have d1 : decide ((i : Int) < (N : Int)) = true := decide_eq_true (by omega)
        have hin2 : (i : Int) < (N : Int) := by omega
        have hi0 : (0 : Int) ≤ (i : Int) := by omega
        obtain ⟨g, z, rfl, hg, pz, fz⟩ := HR.out.at hin
        have HG := Aside0.mk hg
        have HI' := Aside0.mk hin
        have hwi : wrap64 ((i : Int) + 1) = ((i + 1 : Nat) : Int) := by have := HN.out; have := HI'.out; unfold wrap64; omega
        clear hin hg
        go_wp2_with fail
        go_roundw
        case rel => exact ⟨i + 1, by first | rw [hwi] | rfl, Aside0.mk HI'.out, Aside0.mk (HR.out.set i _), Aside0.mk (HK.out.setCell (p := ⟨g, i, none⟩) HG.out _)⟩
        case measure => first | (rw [hwi]; simp [intOf]; have := HI'.out; omega) | (simp [intOf]; have := HI'.out; omega)
      · have d1 : decide ((i : Int) < (N : Int)) = false := decide_eq_false (by omega)
        have hin2 : ¬ ((i : Int) < (N : Int)) := by omega
        go_wp2_with fail
        go_ret
        exact ⟨⟨_, rfl⟩, step_fin (p := w.heap.size) (r := w.heap.size) HB2.out HS2.out.1 HW.out.2.2.1 ((Kp.of_below HB3.out).trans (HK.out.mono HFR.out)) ((HD3.out.keep (fun k hk ho => HK.out.block k hk (fun e => by have := ho.2; omega))).mono (fun k _ ho => ho.1)) (Kp.refl _ _) HW.out.2.2.2.1 HW.out.2.2.2.1 HI.out (HF.out.mono (Nat.le_succ _) (Nat.le_add_right _ _))⟩

end Go.Proofs.Ytgpinkgfgkolfaa.PD

namespace Go.Proofs.Ytgpinkgfgkolfaa.PD
open Go.RowKit Go.Proofs.YtgpinkgfgkolfaaW.PrintWords Go.Proofs.YtgpinkgfgkolfaaW.PrintLast Go.Proofs.YtgpinkgfgkolfaaW.PrintMore
set_option linter.unusedVariables false
set_option linter.unusedSimpArgs false
set_option maxHeartbeats 4000000
set_option maxRecDepth 100000

open Go.Proofs
theorem Fine.writeN {k L l : Nat} {A : Ab} (h : Fine k L A) (nm : Nm) (b : List UInt8) (fN : Nat) (hl : l = b.length) : Fine (k + 1) (L + l) (writeL A nm b fN).2 := hl ▸ h.write nm b fN
/-- append([]byte{}, b...): a row of its own. -/
theorem own_row (w : World) (BA : Option Addr) (c : Nat) (bs : List UInt8) (h : SrcAt (w.alloc (.cells #[] 5)) (.slice BA bs.length c) bs) (hl : bs.length ≤ 1000) :
    ∃ RA rc w1 r, (Builtin.append_ #[29, 29] 29 #[.slice (some ⟨w.heap.size, 0, none⟩) 0 0, .slice BA bs.length c]).run Try.prog (w.alloc (.cells #[] 5)) = .ok (.slice RA bs.length rc) w1 ∧ RowAt w1 (fun k => k = r) (.slice RA bs.length rc) bs ∧ w.heap.size ≤ r ∧ r < w1.heap.size ∧ Below w.heap.size w w1 := by
  have hrow : RowAt (w.alloc (.cells #[] 5)) (fun k => k = w.heap.size) (.slice (some ⟨w.heap.size, 0, none⟩) ([] : List UInt8).length 0) [] := .inr ⟨_, _, _, rfl, rfl, heap_alloc_new w _, Nat.le_refl _, by decide, .inl rfl, Nat.le_refl _, rfl⟩
  obtain ⟨v1, w1, hrun, hr1, hg⟩ := append_row hrow h (by simpa using (by omega : bs.length ≤ 140737488355328))
  rw [List.nil_append] at hr1
  have hb : Below w.heap.size w w1 := by
    have h1 : Below w.heap.size w (w.alloc (.cells #[] 5)) := below_alloc (Below.refl _ _) _
    refine ⟨hg.os.trans h1.os, hg.tape.trans h1.tape, hg.output.trans h1.output, Nat.le_trans h1.size hg.size, fun k hk => (hg.block k (Nat.lt_of_lt_of_le hk h1.size) (fun e => ?_)).trans (h1.block k hk)⟩
    have e' : some w.heap.size = some k := e.symm
    injection e' with e'
    omega
  have hsz : w.heap.size < w1.heap.size := Nat.lt_of_lt_of_le (by simp) hg.size
  rcases hr1 with ⟨rfl, rfl⟩ | ⟨g, cap, cur, rfl, h2, h3, h4⟩
  · exact ⟨none, 0, w1, w.heap.size, hrun, .inl ⟨rfl, rfl⟩, Nat.le_refl _, hsz, hb⟩
  · refine ⟨_, cap, w1, g, hrun, .inr ⟨g, cap, cur, rfl, rfl, h3, h4⟩, ?_, (Array.getElem?_eq_some_iff.1 h3).1, hb⟩
    rcases h2 with h2 | h2
    · omega
    · rw [h2]; simp

end Go.Proofs.Ytgpinkgfgkolfaa.PD

namespace Go.Proofs.Ytgpinkgfgkolfaa.PD
open Go.RowKit Go.Proofs.YtgpinkgfgkolfaaW.PrintWords Go.Proofs.YtgpinkgfgkolfaaW.PrintLast Go.Proofs.YtgpinkgfgkolfaaW.PrintMore
set_option linter.unusedVariables false
set_option linter.unusedSimpArgs false
set_option maxHeartbeats 4000000
set_option maxRecDepth 100000

open Go.Proofs

set_option maxHeartbeats 16000000 in
theorem step_write (B x d q k L : Nat) (xs bs : List UInt8) (A : Ab) (kd ni ti n : Int) (BA : Option Addr) (c : Nat) (w : World) (h : DiskAt w (okX B x) d A) (hx : RAt w x 1048576) (hBx : B ≤ x) (hB : B ≤ w.heap.size) (hI : Inv q xs A) (hF : Fine k L A) (hqs : q < w.heap.size) (hkd : (IntKind.u64.wrap kd).tmod 9 = 0)
    (hn : -9223372036854775808 ≤ n ∧ n ≤ 9223372036854775807) (hs : ∀ W, Below B w W → SrcAt W (.slice BA bs.length c) bs) (hbl : bs.length ≤ 1000) (hkL : k ≤ 1000000 ∧ L ≤ 1000000) :
    Calls Try.prog 18 #[fptr d, fptr x, opV kd ni ti n BA bs.length c] w fun e w' => IsB e ∧ StepQ B x d q k L bs.length xs w w' := by
  have HBL := Aside0.mk hbl
  have HS := Aside0.mk hs
  obtain ⟨l, hl⟩ : ∃ l, l = bs.length := ⟨_, rfl⟩
  rw [← hl]
  have HL := Aside0.mk hl
  clear hbl hs hl
  obtain ⟨wb, hwb⟩ : ∃ W, W = w.alloc (.cells (opC kd ni ti n BA l c) 42) := ⟨_, rfl⟩
  have hbw : Below w.heap.size w wb := by rw [hwb]; exact below_alloc (Below.refl _ _) _
  have hsz : w.heap.size < wb.heap.size := by rw [hwb]; simp
  have HBX := Aside0.mk (fun (W : World) (hW : Below wb.heap.size wb W) => show W.heap[w.heap.size]? = some (.cells (opC kd ni ti n BA l c) 42 (0, 0)) from (hW.block _ (by rw [hwb]; simp)).trans (by rw [hwb]; exact heap_alloc_new w _))
  have HTI := Aside0.mk (fun (W : World) (hW : Below wb.heap.size wb W) => show W.cell? ⟨w.heap.size, 2, none⟩ = some (.int .i64 ti) by have hh := HBX.out W hW; simp [World.cell?, hh])
  have HKD := Aside0.mk (fun (W : World) (hW : Below wb.heap.size wb W) => show W.cell? ⟨w.heap.size, 0, none⟩ = some (.int .i64 kd) by have hh := HBX.out W hW; simp [World.cell?, hh])
  have HX := Aside0.mk (fun (W : World) (hW : Below wb.heap.size wb W) => show RAt W x 1048576 from ((hW.block _ (Nat.lt_of_lt_of_le (Array.getElem?_eq_some_iff.1 hx).1 hbw.size)).trans (hbw.block _ (Array.getElem?_eq_some_iff.1 hx).1)).trans hx)
  have HD := Aside0.mk (fun (W : World) (hW : Below wb.heap.size wb W) (r : Nat) (hr : w.heap.size ≤ r) => show DiskAt W (okN B x w.heap.size r) d A from (h.mono (ok' := okN B x w.heap.size r) (fun k hk ho => ⟨ho.1, ho.2, by omega, by omega⟩)).keep (fun k hk _ => (hW.block k (Nat.lt_of_lt_of_le hk hbw.size)).trans (hbw.block k hk)))
  have HW := Aside0.mk (And.intro hwb (And.intro hbw (And.intro hBx (And.intro hB (And.intro (Array.getElem?_eq_some_iff.1 hx).1 (And.intro hsz (And.intro hqs (And.intro hn hkL))))))))
  have HI := Aside0.mk hI
  have HF := Aside0.mk hF
  clear h hx hBx hB hI hF hbw hsz hqs hn hkL
  have hh := HBX.out wb (Below.refl _ _)
  have c0 : wb.cell? ⟨w.heap.size, 1, none⟩ = some (.int .i64 ni) := by simp [World.cell?, hh]
  have c1 : wb.cell? ⟨w.heap.size, 2, none⟩ = some (.int .i64 ti) := by simp [World.cell?, hh]
  clear hh
  have HWB := Aside0.mk hwb.symm
  clear hwb
  go_enter Try.func18, Try.ntmps18
  go_wp2_with fail
  change Code.wp _ _ _ _ (w.alloc (.cells (opC kd ni ti n BA l c) 42))
  rw [HWB.out]
  have HCUR := Aside0.mk (show Below wb.heap.size wb wb.drew from below_drew (Below.refl _ _))
  go_region_with (go_at_call 33; refine (name_calls _ _).mono ?_; rintro _ w2 ⟨k2, hk2, rfl, hb2⟩; have HC2 := Aside0.mk (Below.trans HCUR.out (hb2.mono HCUR.out.size)); have c2 := HTI.out w2 HC2.out; clear HCUR hb2; have HCUR := HC2; clear HC2)
  all_goals
    have c3 := HKD.out w2 HCUR.out
    clear c0 c1 c2
    have HB2 := Aside0.mk (show Below B w w2 from (HW.out.2.1.mono HW.out.2.2.2.1).trans (HCUR.out.mono (Nat.le_trans HW.out.2.2.2.1 HW.out.2.1.size)))
    have HS2 := Aside0.mk (show B ≤ w2.heap.size ∧ x < w2.heap.size ∧ w.heap.size < w2.heap.size ∧ q < w2.heap.size from ⟨by have := HCUR.out.size; have := HW.out.2.1.size; have := HW.out.2.2.2.1; omega, by have := HCUR.out.size; have := HW.out.2.1.size; have := HW.out.2.2.2.2.1; omega, by have := HCUR.out.size; have := HW.out.2.2.2.2.2.1; omega, by have := HCUR.out.size; have := HW.out.2.1.size; have := HW.out.2.2.2.2.2.2.1; omega⟩)
    have HFR := Aside0.mk (show ∀ k, w2.heap.size ≤ k → okN B x w.heap.size w.heap.size k from fun k hk => ⟨by have := HS2.out.1; omega, by have := HS2.out.2.1; omega, by have := HS2.out.2.2.1; omega, by have := HS2.out.2.2.1; omega⟩)
    have hh := HBX.out w2 HCUR.out
    have hh2 := (Below.heap_alloc w2 (.cells #[] 5) _ HS2.out.2.2.1).trans hh
    have c4 : (w2.alloc (.cells #[] 5)).cell? ⟨w.heap.size, 4, none⟩ = some (.slice BA l c) := by simp [World.cell?, hh2]
    clear hh2
    clear hh
    obtain ⟨RA, rc, w3, r, hrun, hrow, hr1, hr2, hb3⟩ := own_row w2 BA c bs (HS.out _ (HB2.out.trans ((below_alloc (Below.refl _ _) _).mono HS2.out.1))) HBL.out
    rw [← HL.out] at hrun hrow
    have HRUN := Aside0.mk hrun
    have HROW := Aside0.mk hrow
    have HRR := Aside0.mk (And.intro hr1 hr2)
    have HB3 := Aside0.mk hb3
    clear hrun hrow hr1 hr2 hb3
    go_wp2_with (at_builtin; refine wpList_append_run rfl _ _ 29 rfl _ _ _ _ rfl rfl HRUN.out ?_)
    have HC3 := Aside0.mk (show Below wb.heap.size wb w3 from HCUR.out.trans (HB3.out.mono HCUR.out.size))
    have HFR3 := Aside0.mk (show ∀ k, w3.heap.size ≤ k → okN B x w.heap.size r k from fun k hk => by
      have := HS2.out; have := HB3.out.size; have := HRR.out
      exact ⟨by omega, by omega, by omega, by omega⟩)
    have hw := fun kk : Nat => write_calls (okN B x w.heap.size r) d A (nmB kk) (.slice RA l rc) bs w3 (HD.out w3 HC3.out r (by have := HS2.out; have := HRR.out; omega)) HFR3.out (nmB_max _) (by have := HF.out.dir; have := HW.out.2.2.2.2.2.2.2.2.1; omega) HF.out.room HF.out.left
      (fun W hW => (HROW.out.keep (fun g cur hg hh => hW.block g (Array.getElem?_eq_some_iff.1 hh).1 (fun e => e.2.2.2 hg))).src) (fun f hf => by have := (HF.out.len f).2; have := HW.out.2.2.2.2.2.2.2.2.2; have := HBL.out; omega) (by have := HBL.out; omega)
    refine (hw _).mono ?_
    rintro _ w4 ⟨fN, hfN, rfl, hD4, hk4⟩
    clear hw
    have HD4 := Aside0.mk hD4
    have HK4 := Aside0.mk hk4
    have HFN := Aside0.mk (show fN ≠ q by have := HS2.out; have := HB3.out.size; omega)
    have HBR := Aside0.mk ((BRow.of (HROW.out.keep (fun g cur hg hh => hk4.block g (Array.getElem?_eq_some_iff.1 hh).1 (fun e => e.2.2.2 hg)))).2)
    have HN := Aside0.mk (show l ≤ 1000000 by have := HL.out; have := HBL.out; omega)
    clear hD4 hk4 hfN c3
    go_wp2_with fail
    go_loopw [11, 55] (fun _ v wr => ∃ i : Nat, v = .int .i64 (i : Int) ∧ Aside0 (i ≤ l) ∧ Aside0 (BRow wr RA l (fun k => k = r)) ∧ Aside0 (Kp (fun k => k = r) w4 wr)) (fun _ v _ => l - (intOf v).toNat)
    case atStart => exact ⟨0, rfl, Aside0.mk (Nat.zero_le _), HBR, Aside0.mk (Kp.refl _ _)⟩
    case round =>
      obtain ⟨i, rfl, HIN, HR, HK⟩ := hrel
      by_cases hin : i < l
      · have d1 : decide ((i : Int) < (l : Int)) = true := decide_eq_true (by omega)
        have hin2 : (i : Int) < (l : Int) := by omega
        have hi0 : (0 : Int) ≤ (i : Int) := by omega
        obtain ⟨g, z, rfl, hg, pz, fz⟩ := HR.out.at hin
        have HG := Aside0.mk hg
        have HI' := Aside0.mk hin
        have hwi : wrap64 ((i : Int) + 1) = ((i + 1 : Nat) : Int) := by have := HN.out; have := HI'.out; unfold wrap64; omega
        clear hin hg
        go_wp2_with fail
        go_roundw
        case rel => exact ⟨i + 1, by first | rw [hwi] | rfl, Aside0.mk HI'.out, Aside0.mk (HR.out.set i _), Aside0.mk (HK.out.setCell (p := ⟨g, i, none⟩) HG.out _)⟩
        case measure => first | (rw [hwi]; simp [intOf]; have := HI'.out; omega) | (simp [intOf]; have := HI'.out; omega)
      · have d1 : decide ((i : Int) < (l : Int)) = false := decide_eq_false (by omega)
        have hin2 : ¬ ((i : Int) < (l : Int)) := by omega
        have hxr : RAt wr x 1048576 := (HK.out.block x (by have := HS2.out; have := HB3.out.size; have := HK4.out.size; omega) (fun e => by have := HS2.out; have := HRR.out; omega)).trans ((HK4.out.block x (by have := HS2.out; have := HB3.out.size; omega) (fun e => e.2.1 rfl)).trans (HX.out w3 HC3.out))
        have hbr : wr.heap[w.heap.size]? = some (.cells (opC kd ni ti n BA l c) 42 (0, 0)) := (HK.out.block _ (by have := HS2.out; have := HB3.out.size; have := HK4.out.size; omega) (fun e => by have := HS2.out; have := HRR.out; omega)).trans ((HK4.out.block _ (by have := HS2.out; have := HB3.out.size; omega) (fun e => e.2.2.1 rfl)).trans (HBX.out w3 HC3.out))
        have c5 : wr.cell? ⟨w.heap.size, 4, none⟩ = some (.slice BA l c) := by simp [World.cell?, hbr]
        have hb4 : Below B w wr := (HB2.out.trans (HB3.out.mono HS2.out.1)).trans ((HK4.out.below (Nat.le_trans HS2.out.1 HB3.out.size) (fun _ h => h.1)).trans (HK.out.below (Nat.le_trans HS2.out.1 (Nat.le_trans HB3.out.size HK4.out.size)) (fun k h => by have := HS2.out; have := HRR.out; omega)))
        have hrw := fun nm => rwrite_e x 1048576 nm BA c bs wr hxr (fun W hW => HS.out W (hb4.trans (hW.below (Nat.le_trans HW.out.2.2.2.1 hb4.size) (fun k h => h.elim (fun h => h ▸ HW.out.2.2.1) (fun h => Nat.le_trans (Nat.le_trans HW.out.2.2.2.1 hb4.size) h))))) (by have := HBL.out; omega)
        rw [← HL.out] at hrw
        have HRW := Aside0.mk hrw
        clear hxr hbr hb4 hrw
        go_wp2_with fail
        refine (HRW.out _).mono ?_
        rintro _ w5 ⟨⟨re, rfl⟩, hk5⟩
        have HK5 := Aside0.mk hk5
        clear hk5
        go_wp2_with fail
        go_ret
        refine ⟨⟨_, rfl⟩, step_fin (HB2.out.trans (HB3.out.mono HS2.out.1)) (Nat.le_trans HS2.out.1 HB3.out.size) HW.out.2.2.1 HK4.out HD4.out ?_ HW.out.2.2.2.1 (by have := HS2.out; have := HRR.out; omega) (HI.out.write (nmB_ne _) bs HFN.out) (HF.out.writeN _ bs fN HL.out)⟩
        exact (HK.out.mono (fun k h => .inr (.inr (.inl h)))).trans (HK5.out.mono (fun k h => by
          rcases h with h | h
          · exact .inl h
          · exact .inr (.inr (.inr (Nat.le_trans HK.out.size h)))))

end Go.Proofs.Ytgpinkgfgkolfaa.PD
