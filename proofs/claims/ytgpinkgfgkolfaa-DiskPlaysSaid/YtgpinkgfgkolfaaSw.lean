/- DiskSwaps walked. -/
import Derived.Test.YtgpinkgfgkolfaaSwL
import Derived.Lib.MinMax
namespace Go.Proofs.Ytgpinkgfgkolfaa.PD
open Go.RowKit Go.Proofs.YtgpinkgfgkolfaaW.PrintWords Go.Proofs.YtgpinkgfgkolfaaW.PrintLast Go.Proofs.YtgpinkgfgkolfaaW.PrintMore
set_option linter.unusedVariables false
set_option linter.unusedSimpArgs false
set_option maxHeartbeats 4000000
set_option maxRecDepth 100000

open Go.Proofs
theorem min300 (l k : Nat) (h : k = min l 300) (W : World) : (Builtin.min_ #[3, 3] 3 #[.int .i64 (l : Int), .int .i64 300]).run Try.prog W = .ok (.int .i64 (k : Int)) W := by
  rw [Lib.run_min_ints, show min (l : Int) 300 = (k : Int) by omega]
set_option maxHeartbeats 16000000 in
theorem swaps_calls (aa ab : Option Addr) (ca cb : Nat) (xa xb : List UInt8) (i j : Int) (w : World) (ha : SrcAt w (.slice aa xa.length ca) xa) (hb : SrcAt w (.slice ab xb.length cb) xb) (hca : xa.length ≤ ca) (hcb : xb.length ≤ cb) :
    Calls Try.prog 4 #[.slice aa xa.length ca, .slice ab xb.length cb, .agg #[.int .i64 i, .int .i64 j]] w fun e w' => e = .returned (.bool true) ∧ Below w.heap.size w w' := by
  obtain ⟨n, hn, g1'⟩ := u64_tmod i 6 (by decide)
  have g1 : (IntKind.u64.wrap i).tmod 6 = (n : Int) := g1'
  clear g1'
  have g2 := wrap_nat n (by omega)
  obtain ⟨kx, hkx⟩ : ∃ k, k = min xa.length 300 := ⟨_, rfl⟩
  obtain ⟨ky, hky⟩ : ∃ k, k = min xb.length 300 := ⟨_, rfl⟩
  obtain ⟨la, hla⟩ : ∃ k, k = xa.length := ⟨_, rfl⟩
  obtain ⟨lb, hlb⟩ : ∃ k, k = xb.length := ⟨_, rfl⟩
  rw [← hla] at ha hca hkx
  rw [← hlb] at hb hcb hky
  rw [← hla, ← hlb]
  have hmx : ∀ W : World, (Builtin.min_ #[3, 3] 3 #[.int .i64 (la : Int), .int .i64 300]).run Try.prog W = .ok (.int .i64 (kx : Int)) W := fun W => min300 la kx hkx W
  have hmy : ∀ W : World, (Builtin.min_ #[3, 3] 3 #[.int .i64 (lb : Int), .int .i64 300]).run Try.prog W = .ok (.int .i64 (ky : Int)) W := fun W => min300 lb ky hky W
  have hvx : min (la : Int) 300 = (kx : Int) := by omega
  have hvy : min (lb : Int) 300 = (ky : Int) := by omega
  have hx1 : kx ≤ la := by omega
  have hx2 : kx ≤ ca := by omega
  have hy1 : ky ≤ lb := by omega
  have hy2 : ky ≤ cb := by omega
  have HSX := Aside0.mk (show SrcAt w (.slice aa kx ca) (xa.take kx) from by rw [hla] at ha; exact ha.take kx (by omega))
  have HSY := Aside0.mk (show SrcAt w (.slice ab ky cb) (xb.take ky) from by rw [hlb] at hb; exact hb.take ky (by omega))
  have HNX := Aside0.mk (show kx ≤ 300 ∧ (xa.take kx).length = kx from ⟨by omega, by rw [List.length_take]; omega⟩)
  have HNY := Aside0.mk (show ky ≤ 300 ∧ (xb.take ky).length = ky from ⟨by omega, by rw [List.length_take]; omega⟩)
  have HN := Aside0.mk hn
  clear ha hb hca hcb hkx hky hla hlb hn
  generalize xa.take kx = x at *
  generalize xb.take ky = y at *
  obtain ⟨wb, hwb⟩ : ∃ W, W = w.alloc (.cells #[.int .i64 i, .int .i64 j] 34) := ⟨_, rfl⟩
  go_enter Try.func4, Try.ntmps4
  go_wp2_with fail
  rw [← hwb]
  refine (first_calls wb).mono ?_
  rintro _ w0 ⟨rfl, hb0⟩
  have HB0 := Aside0.mk hb0
  have HWB := Aside0.mk hwb
  clear hb0 hwb
  go_wp2_with fail
  refine wp_region_quiet_lit (by kernel_rfl) (by kernel_rfl) ?_
  repeat (any_goals (first | go_big_quiet_step (fail) | quiet_step (fail)))
  refine wpQuiet_nil ?_
  intro _ hw'
  obtain ⟨nq, hw''⟩ := hw'
  subst hw''
  have HB1 := Aside0.mk (pw_below_drewN HB0.out nq)
  generalize w0.drewN nq = w1 at *
  clear hmx hmy hvx hvy hx1 hx2 hy1 hy2
  have hsz : w.heap.size ≤ wb.heap.size := by rw [HWB.out]; simp
  have hbw : Below w.heap.size w wb := by rw [HWB.out]; exact below_alloc (Below.refl _ _) _
  have HX := Aside0.mk (fun (W : World) (hW : Below wb.heap.size wb W) => HSX.out.below (hbw.trans (hW.mono hsz)))
  have HY := Aside0.mk (fun (W : World) (hW : Below wb.heap.size wb W) => HSY.out.below (hbw.trans (hW.mono hsz)))
  have HBX := Aside0.mk (fun (W : World) (hW : Below wb.heap.size wb W) => show W.heap[w.heap.size]? = some (.cells #[.int .i64 i, .int .i64 j] 34 (0, 0)) from (hW.block _ (by rw [HWB.out]; simp)).trans (by rw [HWB.out]; exact heap_alloc_new w _))
  have HWW := Aside0.mk (And.intro hsz hbw)
  clear HSX HSY HB0 hsz hbw
  go_wp2_with fail
  refine (new_calls (fun k => wb.heap.size ≤ k) 1000 w1 (fun k hk => Nat.le_trans HB1.out.size hk) (by decide)).mono ?_
  rintro _ w2 ⟨d, rfl, hD, hb⟩
  have HD := Aside0.mk hD
  have HB := Aside0.mk (HB1.out.trans (hb.mono HB1.out.size))
  clear hD hb HB1
  go_wp2_with fail
  have hc := write_at wb.heap.size d _ (⟨#[102]⟩ : ByteArray) (.slice aa kx ca) x (fun k => wb.heap.size ≤ k) _ HD.out (fun W hW => HX.out W (HB.out.trans (hW.below HB.out.size (fun _ h => h)))) HB.out.size (fun k h => h) (fun k h => Nat.le_trans HB.out.size h) (by decide) (by show 0 ≤ _; decide) (wrap_ok 1000 (by decide) (by decide)) calm_left (fun f hf => by cases hf) (by have := HNX.out; omega)
  refine hc.mono ?_
  rintro _ w3 ⟨q, -, he, hD, hb⟩
  have hev := (show writeL (newL 1000) (⟨#[102]⟩ : ByteArray).data.toList x q = _ from write_new 1000 x q (wrap_ok 1000 (by decide) (by decide)) (by have := HNX.out; omega))
  rw [hev] at he hD
  subst he
  clear hc hev
  have HB' := Aside0.mk (HB.out.trans hb)
  have HD' := Aside0.mk hD
  clear hb hD HB HD
  have HB := HB'
  have HD := HD'
  clear HB' HD'
  go_wp2_with fail
  have hc := sync_calls (fun k => wb.heap.size ≤ k) d _ (⟨#[102]⟩ : ByteArray) w3 HD.out (by decide) calm_left
  have hev := (show syncL (oneA 1000 q (x, 0) []) (⟨#[102]⟩ : ByteArray).data.toList = (0, oneA 1000 q (x, x.length) []) from sync_one 1000 q _ [])
  rw [hev] at hc
  clear hev
  refine hc.mono ?_
  rintro _ w4 ⟨rfl, hD, hk⟩
  have hb := hk.below (B := wb.heap.size) HB.out.size (fun _ h => h)
  clear hc hk
  have HB' := Aside0.mk (HB.out.trans hb)
  have HD' := Aside0.mk hD
  clear hb hD HB HD
  have HB := HB'
  have HD := HD'
  clear HB' HD'
  go_wp2_with fail
  have hc := flush_calls (fun k => wb.heap.size ≤ k) d _ w4 HD.out (fun k hk => by have := HB.out.size; omega) calm_left
  have hev := flush_one 1000 q (x, x.length) []
  rw [hev] at hc
  clear hev
  refine hc.mono ?_
  rintro _ w5 ⟨rfl, hD, hk⟩
  have hb := hk.below (B := wb.heap.size) HB.out.size (fun _ h => h)
  clear hc hk
  have HB' := Aside0.mk (HB.out.trans hb)
  have HD' := Aside0.mk hD
  clear hb hD HB HD
  have HB := HB'
  have HD := HD'
  clear HB' HD'
  have hh := HBX.out w5 HB.out
  have hc0 : w5.cell? ⟨w.heap.size, 0, none⟩ = some (.int .i64 i) := by simp [World.cell?, hh]
  clear hh
  go_wp2_with fail
  refine (fail_calls (fun k => wb.heap.size ≤ k) d _ (n : Int) w5 HD.out).mono ?_
  rintro _ w6 ⟨rfl, hD, hk⟩
  have hb := hk.below (B := wb.heap.size) HB.out.size (fun _ h => h)
  clear hk
  have HF := Aside0.mk (show Fine 1 300 (sA0 q x n) from ⟨wrap_ok 1000 (by decide) (by decide), Nat.le_refl _, Nat.le_refl _, fun f => by
    by_cases hf : f = q
    · rw [hf, show (sA0 q x n).fs q = (x, x.length) from upd_same _ _ _]; exact ⟨Nat.le_refl _, by have := HNX.out; show x.length ≤ 300; omega⟩
    · rw [show (sA0 q x n).fs f = ([], 0) from upd_other _ _ _ _ hf]; exact ⟨Nat.le_refl _, Nat.zero_le _⟩, by show _ ≤ (n : Int) ∧ (n : Int) ≤ _; have := HN.out; omega⟩)
  have HQ := Aside0.mk (show q < w6.heap.size from Nat.lt_of_lt_of_le (DAt.lt (B := wb.heap.size) HD.out (.inl ⟨[102], List.mem_singleton.2 rfl⟩)) hb.size)
  clear hc0
  have HB' := Aside0.mk (HB.out.trans hb)
  have HD' := Aside0.mk hD
  clear hb hD HB HD
  have HB := HB'
  have HD := HD'
  clear HB' HD'
  go_wp2_with fail
  have hc := write_at wb.heap.size d (sA0 q x n) (⟨#[110, 101, 119]⟩ : ByteArray) (.slice ab ky cb) y (fun k => wb.heap.size ≤ k) _ HD.out (fun W hW => HY.out W (HB.out.trans (hW.below HB.out.size (fun _ h => h)))) HB.out.size (fun k h => h) (fun k h => Nat.le_trans HB.out.size h) (by decide) (by show 1 ≤ _; decide) HF.out.room HF.out.left (fun f hf => by have := (HF.out.len f).2; omega) (by have := HNY.out; omega)
  refine hc.mono ?_
  rintro _ w7 ⟨p, hp, rfl, hD, hb⟩
  have HP := Aside0.mk (show q ≠ p by have := HQ.out; omega)
  have HF1 := Aside0.mk ((HF.out.write nmN y p).mono (k' := 2) (L' := 600) (Nat.le_refl _) (by have := HNY.out; omega))
  clear hc hp HQ HF
  obtain ⟨B1, hB1⟩ : ∃ B, B = (writeL (sA0 q x n) nmN y p).2 := ⟨_, rfl⟩
  change DAt wb.heap.size w7 d (writeL (sA0 q x n) nmN y p).2 at hD
  rw [← hB1] at HF1 hD
  have HE1 := Aside0.mk hB1
  clear hB1
  generalize (writeL (sA0 q x n) _ y p).1 = e1
  have HB' := Aside0.mk (HB.out.trans hb)
  have HD' := Aside0.mk hD
  clear hb hD HB HD
  have HB := HB'
  have HD := HD'
  clear HB' HD'
  go_wp2_with fail
  have hc := sync_calls (fun k => wb.heap.size ≤ k) d B1 (⟨#[110, 101, 119]⟩ : ByteArray) w7 HD.out (by decide) HF1.out.left
  refine hc.mono ?_
  rintro _ w8 ⟨rfl, hD, hk⟩
  have hb := hk.below (B := wb.heap.size) HB.out.size (fun _ h => h)
  have HF2 := Aside0.mk (HF1.out.sync nmN)
  clear hc hk HF1
  obtain ⟨B2, hB2⟩ : ∃ B, B = (syncL B1 nmN).2 := ⟨_, rfl⟩
  change DAt wb.heap.size w8 d (syncL B1 nmN).2 at hD
  rw [← hB2] at HF2 hD
  have HE2 := Aside0.mk hB2
  clear hB2
  have HB' := Aside0.mk (HB.out.trans hb)
  have HD' := Aside0.mk hD
  clear hb hD HB HD
  have HB := HB'
  have HD := HD'
  clear HB' HD'
  go_wp2_with fail
  have hc := rename_calls (fun k => wb.heap.size ≤ k) d B2 (⟨#[110, 101, 119]⟩ : ByteArray) (⟨#[102]⟩ : ByteArray) w8 HD.out (fun k hk => by have := HB.out.size; omega) (by decide) (by decide) (by have := HF2.out.dir; unfold maxLen; omega) HF2.out.left
  refine hc.mono ?_
  rintro _ w9 ⟨rfl, hD, hk⟩
  have hb := hk.below (B := wb.heap.size) HB.out.size (fun _ h => h)
  have HF3 := Aside0.mk (HF2.out.ren nmN [102])
  clear hc hk HF2
  obtain ⟨B3, hB3⟩ : ∃ B, B = (renL B2 nmN [102]).2 := ⟨_, rfl⟩
  change DAt wb.heap.size w9 d (renL B2 nmN [102]).2 at hD
  rw [← hB3] at HF3 hD
  have HE3 := Aside0.mk hB3
  clear hB3
  have HB' := Aside0.mk (HB.out.trans hb)
  have HD' := Aside0.mk hD
  clear hb hD HB HD
  have HB := HB'
  have HD := HD'
  clear HB' HD'
  go_wp2_with fail
  have hc := flush_calls (fun k => wb.heap.size ≤ k) d B3 w9 HD.out (fun k hk => by have := HB.out.size; omega) HF3.out.left
  refine hc.mono ?_
  rintro _ w10 ⟨rfl, hD, hk⟩
  have hb := hk.below (B := wb.heap.size) HB.out.size (fun _ h => h)
  have HF4 := Aside0.mk (HF3.out.flush)
  clear hc hk HF3
  obtain ⟨B4, hB4⟩ : ∃ B, B = (flushL B3).2 := ⟨_, rfl⟩
  change DAt wb.heap.size w10 d (flushL B3).2 at hD
  rw [← hB4] at HF4 hD
  have HE4 := Aside0.mk hB4
  clear hB4
  have HB' := Aside0.mk (HB.out.trans hb)
  have HD' := Aside0.mk hD
  clear hb hD HB HD
  have HB := HB'
  have HD := HD'
  clear HB' HD'
  have hh := HBX.out w10 HB.out
  have hc1 : w10.cell? ⟨w.heap.size, 1, none⟩ = some (.int .i64 j) := by simp [World.cell?, hh]
  clear hh
  go_wp2_with fail
  have hc := crash_calls (fun k => wb.heap.size ≤ k) d B4 j w10 HD.out (fun k hk => by have := HB.out.size; omega) (fun f hf => ⟨(HF4.out.len f).1, by have := (HF4.out.len f).2; omega⟩)
  refine hc.mono ?_
  rintro _ w11 ⟨rfl, hD, hk⟩
  have hb := hk.below (B := wb.heap.size) HB.out.size (fun _ h => h)
  have HF5 := Aside0.mk (HF4.out.crash j)
  clear hc hk hc1 HF4
  have HB' := Aside0.mk (HB.out.trans hb)
  have HD' := Aside0.mk hD
  clear hb hD HB HD
  have HB := HB'
  have HD := HD'
  clear HB' HD'
  go_wp2_with fail
  have hr := read_calls (fun k => wb.heap.size ≤ k) d _ (⟨#[102]⟩ : ByteArray) w11 HD.out (by decide) (fun f hf => by have := (HF5.out.len f).2; omega)
  rcases Nat.lt_or_ge n 4 with hn4 | hn4
  · have hev : readL (crashL B4 j) (⟨#[102]⟩ : ByteArray).data.toList = some x := by
      rw [HE4.out, HE3.out, HE2.out, HE1.out]
      exact swaps_old q p x y n j HP.out (by omega)
    rw [hev] at hr
    have hcc : ((4 : Int) ≤ (n : Int)) = False := eq_false (by omega)
    have hcd : (4 ≤ n) = False := eq_false (by omega)
    clear hev hn4
    refine hr.mono ?_
    rintro _ w12 ⟨v, rfl, hrow, hb⟩
    have hcv := hrow.string
    have hB12 : Below wb.heap.size wb w12 := HB.out.trans (hb.mono HB.out.size)
    have hcw := (HX.out w12 hB12).string
    have HB12 := Aside0.mk hB12
    clear hr hb hrow hB12
    go_wp2_with fail
    go_ret
    exact ⟨rfl, HWW.out.2.trans (HB12.out.mono HWW.out.1)⟩
  · have hev : readL (crashL B4 j) (⟨#[102]⟩ : ByteArray).data.toList = some y := by
      rw [HE4.out, HE3.out, HE2.out, HE1.out]
      exact swaps_new q p x y n j (by have := HNX.out; omega) (by have := HNY.out; omega) hn4
    rw [hev] at hr
    have hcc : ((4 : Int) ≤ (n : Int)) = True := eq_true (by omega)
    have hcd : (4 ≤ n) = True := eq_true hn4
    clear hev hn4
    refine hr.mono ?_
    rintro _ w12 ⟨v, rfl, hrow, hb⟩
    have hcv := hrow.string
    have hB12 : Below wb.heap.size wb w12 := HB.out.trans (hb.mono HB.out.size)
    have hcw := (HY.out w12 hB12).string
    have HB12 := Aside0.mk hB12
    clear hr hb hrow hB12
    go_wp2_with fail
    go_ret
    exact ⟨rfl, HWW.out.2.trans (HB12.out.mono HWW.out.1)⟩

end Go.Proofs.Ytgpinkgfgkolfaa.PD
