/- DiskRoom walked. -/
import Derived.Test.YtgpinkgfgkolfaaEv2
namespace Go.Proofs.Ytgpinkgfgkolfaa.PD
open Go.RowKit Go.Proofs.YtgpinkgfgkolfaaW.PrintWords Go.Proofs.YtgpinkgfgkolfaaW.PrintLast Go.Proofs.YtgpinkgfgkolfaaW.PrintMore
set_option linter.unusedVariables false
set_option linter.unusedSimpArgs false
set_option maxHeartbeats 4000000
set_option maxRecDepth 100000

open Go.Proofs
set_option maxHeartbeats 16000000 in
theorem room_calls (r a b : Int) (w : World) : Calls Try.prog 3 #[.int .i64 r, .int .i64 a, .int .i64 b] w fun e w' => e = .returned (.bool true) ∧ Below w.heap.size w w' := by
  obtain ⟨m, hm, g1⟩ := u64_tmod r 500 (by decide)
  have G1 := Aside0.mk (show (IntKind.u64.wrap r).tmod 500 = (m : Int) from g1)
  clear g1
  obtain ⟨n, hn⟩ : ∃ n, n = m + 1 := ⟨_, rfl⟩
  obtain ⟨n1, hn1⟩ : ∃ n1, n1 = n + 1 := ⟨_, rfl⟩
  have hn10 : 0 < n1 := by omega
  obtain ⟨x, hx, g2⟩ := u64_tmod a n1 hn10
  have G2 := Aside0.mk g2
  clear g2
  obtain ⟨y, hy, g3⟩ := u64_tmod b 600 (by decide)
  have G3 := Aside0.mk (show (IntKind.u64.wrap b).tmod 600 = (y : Int) from g3)
  clear g3
  have hxn : x ≤ n := by omega
  obtain ⟨nx, hnx⟩ : ∃ nx, nx = n - x := ⟨_, rfl⟩
  have hm1 : m ≤ 1000000 := by omega
  have hn2 : n ≤ 1000000 := by omega
  have hx2 : x ≤ 1000000 := by omega
  have hy2 : y ≤ 1000000 := by omega
  have hn12 : n1 < 1000000 := by omega
  have hn11 : n1 ≤ 1000000 := by omega
  have hnz : ¬ n1 = 0 := by omega
  have HROOM := Aside0.mk (wrap_nat n hn2)
  have HNUM := Aside0.mk (And.intro hxn (And.intro hnx (And.intro hn (And.intro hm hy))))
  have G5 := Aside0.mk (wrap_succ m n hn hm1)
  have G6 := Aside0.mk (wrap_succ' n n1 hn1 hn2)
  have G7 := Aside0.mk (u64_nat n1 hn12)
  have G11 := Aside0.mk (wrap_diff n x nx hnx hxn hn2)
  have G4 := Aside0.mk (wrap_nat m hm1)
  have G9 := Aside0.mk (wrap_nat x hx2)
  have G12 := Aside0.mk (show wrap64 ((nx : Int) + (x : Int)) = (n : Int) from wrap_sum n x nx hnx hxn hn2)
  have G10 := Aside0.mk (wrap_nat y hy2)
  have hn3 : (1 : Int) ≤ (n : Int) := by omega
  have hmkx : ∀ W : World, (Instr.makeSlice 29 (.int .i64 (x : Int)) (.int .i64 (x : Int))).run Try.prog W = .ok (.slice (some ⟨W.heap.size, 0, none⟩) x x) (W.alloc (.cells (madeCells #[.int .u8 0] x) 5)) := fun W => run_make_row' (P := Try.prog) 29 5 (.int .u8 0) 1 Try.underlying29 info8 rfl .i64 .i64 x (by omega) (by omega) W
  have hmky : ∀ W : World, (Instr.makeSlice 29 (.int .i64 (y : Int)) (.int .i64 (y : Int))).run Try.prog W = .ok (.slice (some ⟨W.heap.size, 0, none⟩) y y) (W.alloc (.cells (madeCells #[.int .u8 0] y) 5)) := fun W => run_make_row' (P := Try.prog) 29 5 (.int .u8 0) 1 Try.underlying29 info8 rfl .i64 .i64 y (by omega) (by omega) W
  have g8 : (n1 = 0) = False := eq_false hnz
  have g8' : ((n1 : Int) = 0) = False := eq_false (fun e => hnz (Int.ofNat_inj.1 e))
  have HMX := Aside0.mk hmkx
  have HMY := Aside0.mk hmky
  clear hm hn hn1 hx hy hxn hnx hm1 hn2 hx2 hy2 hn12 hn11 hnz hn10 hmkx hmky
  have HN3 := Aside0.mk hn3
  clear hn3
  have g1 := G1.out
  have g2 := G2.out
  have g3 := G3.out
  have g4 := G4.out
  have g5 := G5.out
  have g6 := G6.out
  have g7 := G7.out
  have g9 := G9.out
  have g10 := G10.out
  go_enter Try.func3, Try.ntmps3
  go_wp2_with fail
  refine (first_calls w).mono ?_
  rintro _ w0 ⟨rfl, hb⟩
  have HB0 := Aside0.mk hb
  clear hb
  go_wp2_with fail
  refine (new_calls (fun k => w.heap.size ≤ k) (n : Int) w0 (fun k hk => Nat.le_trans HB0.out.size hk) (Int.le_trans (by decide) HN3.out)).mono ?_
  rintro _ w1 ⟨d, rfl, hD, hb⟩
  have HD := Aside0.mk hD
  have HB := Aside0.mk (HB0.out.trans (hb.mono HB0.out.size))
  clear hD hb HB0 g1 g2 g3 g4 g5 g6 g7 g8 g8'
  have hmkx := HMX.out
  have hmky := HMY.out
  have g11 := G11.out
  have g12 := G12.out
  have g9 := G9.out
  have g5 := G5.out
  go_wp2_with fail
  obtain ⟨hs1, hs2⟩ := src_new HD.out (List.replicate x 0) (0, 0) (w1 := w1.alloc (.cells (madeCells #[.int .u8 0] x) 5 (0, 0))) (by rw [made_zero])
  simp only [List.length_replicate] at hs2
  have hc := write_at w.heap.size d _ (⟨#[102]⟩ : ByteArray) (.slice (some ⟨w1.heap.size, 0, none⟩) x x) (List.replicate x 0) _ _ hs1 hs2 (by have := HB.out.size; simp; omega) (fun k h => h.1) (fun k h => ⟨by have := HB.out.size; simp at h; omega, by simp at h; omega⟩) (by decide) (by show 0 ≤ _; decide) HROOM.out calm_left (fun f hf => by cases hf) (by rw [List.length_replicate]; have := HNUM.out; omega)
  clear hs1 hs2
  refine hc.mono ?_
  rintro _ w2 ⟨q, -, he, hD, hb⟩
  have hev := (show writeL (newL (n : Int)) (⟨#[102]⟩ : ByteArray).data.toList (List.replicate x 0) q = _ from write_new (n : Int) (List.replicate x 0) q HROOM.out (by rw [List.length_replicate]; have := HNUM.out; omega))
  rw [hev] at he hD
  subst he
  replace hb := ((below_alloc (Below.refl w1.heap.size w1) (.cells (madeCells #[.int .u8 0] x) 5 (0, 0))).mono HB.out.size).trans hb
  clear hc hev
  have HB' := Aside0.mk (HB.out.trans hb)
  have HD' := Aside0.mk hD
  clear hb hD HB HD
  have HB := HB'
  have HD := HD'
  clear HB' HD'
  go_wp2_with fail
  have HF := Aside0.mk (free_calls (fun k => w.heap.size ≤ k) d _ w2 HD.out HROOM.out (by show 1 * 8 ≤ _; decide))
  rw [(show wrap64 (freeL (oneA (n : Int) q (List.replicate x 0, 0) [])) = (nx : Int) by rw [free_one _ _ _ _ (by simp), List.length_replicate]; exact G11.out)] at HF
  refine HF.out.mono ?_
  rintro _ w3 ⟨rfl, hb⟩
  have hD := DAt.below HD.out hb
  replace hb : Below w.heap.size _ _ := hb.mono HB.out.size
  clear HF
  have HB' := Aside0.mk (HB.out.trans hb)
  have HD' := Aside0.mk hD
  clear hb hD HB HD
  have HB := HB'
  have HD := HD'
  clear HB' HD'
  go_wp2_with fail

  have hyn := Nat.lt_or_ge nx y
  obtain ⟨q0, hq0⟩ : ∃ x, x = q := ⟨_, rfl⟩
  subst hq0
  rcases hyn with hyn | hyn
  · have HC := Aside0.mk hyn
    clear hyn
    have hcc : (y ≤ nx) = False := eq_false (fun e => by have := HC.out; omega)
    have hcd : ((y : Int) ≤ (nx : Int)) = False := eq_false (fun e => by have := HC.out; omega)
    obtain ⟨hs1, hs2⟩ := src_new HD.out (List.replicate y 0) (0, 0) (w1 := w3.alloc (.cells (madeCells #[.int .u8 0] y) 5 (0, 0))) (by rw [made_zero])
    simp only [List.length_replicate] at hs2
    have hc := write_at w.heap.size d _ (⟨#[103]⟩ : ByteArray) (.slice (some ⟨w3.heap.size, 0, none⟩) y y) (List.replicate y 0) _ _ hs1 hs2 (by have := HB.out.size; simp; omega) (fun k h => h.1) (fun k h => ⟨by have := HB.out.size; simp at h; omega, by simp at h; omega⟩) (by decide) (by show 1 ≤ _; decide) HROOM.out calm_left (fun f hf => by cases hf) (by rw [List.length_replicate]; have := HNUM.out; omega)
    clear hs1 hs2
    refine hc.mono ?_
    rintro _ w4 ⟨q, -, he, hD, hb⟩
    have hev := (show writeL (oneA (n : Int) q0 (List.replicate x 0, 0) []) (⟨#[103]⟩ : ByteArray).data.toList (List.replicate y 0) q = _ from write_full _ _ _ q rfl (by decide) (by rw [show wrap64 (freeL (oneA (n : Int) q0 (List.replicate x 0, 0) [])) = (nx : Int) by rw [free_one _ _ _ _ (by simp), List.length_replicate]; exact G11.out, List.length_replicate]; have := HC.out; omega))
    rw [hev] at he hD
    subst he
    replace hb := ((below_alloc (Below.refl w3.heap.size w3) (.cells (madeCells #[.int .u8 0] y) 5 (0, 0))).mono HB.out.size).trans hb
    clear hc hev
    have HB' := Aside0.mk (HB.out.trans hb)
    have HD' := Aside0.mk hD
    clear hb hD HB HD
    have HB := HB'
    have HD := HD'
    clear HB' HD'
    go_wp2_with fail
    have hc := flush_calls (fun k => w.heap.size ≤ k) d _ w4 HD.out (fun k hk => by have := HB.out.size; omega) calm_left
    have hev := flush_one (n : Int) q0 (List.replicate x 0, 0) []
    rw [hev] at hc
    clear hev
    refine hc.mono ?_
    rintro _ w5 ⟨rfl, hD, hk⟩
    have hb := hk.below (B := w.heap.size) HB.out.size (fun _ h => h)
    clear hc hk
    have HB' := Aside0.mk (HB.out.trans hb)
    have HD' := Aside0.mk hD
    clear hb hD HB HD
    have HB := HB'
    have HD := HD'
    clear HB' HD'
    go_wp2_with fail
    have HF := Aside0.mk (free_calls (fun k => w.heap.size ≤ k) d _ w5 HD.out HROOM.out (by show 1 * 8 ≤ _; decide))
    rw [(show wrap64 (freeL (oneA (n : Int) q0 (List.replicate x 0, 0) [(([102] : Nm), q0)])) = (nx : Int) by rw [free_one _ _ _ _ (by simp), List.length_replicate]; exact G11.out)] at HF
    refine HF.out.mono ?_
    rintro _ w6 ⟨rfl, hb⟩
    have hD := DAt.below HD.out hb
    replace hb : Below w.heap.size _ _ := hb.mono HB.out.size
    clear HF
    have HB' := Aside0.mk (HB.out.trans hb)
    have HD' := Aside0.mk hD
    clear hb hD HB HD
    have HB := HB'
    have HD := HD'
    clear HB' HD'
    go_wp2_with fail
    have hc := remove_calls (fun k => w.heap.size ≤ k) d _ (⟨#[102]⟩ : ByteArray) w6 HD.out (fun k hk => by have := HB.out.size; omega) (by decide) calm_left
    have hev := (show remL (oneA (n : Int) q0 (List.replicate x 0, 0) [(([102] : Nm), q0)]) (⟨#[102]⟩ : ByteArray).data.toList = (0, noneA (n : Int) q0 (List.replicate x 0, 0) [(([102] : Nm), q0)]) from rem_f _ _ q0 rfl rfl)
    rw [hev] at hc
    clear hev
    refine hc.mono ?_
    rintro _ w7 ⟨rfl, hD, hk⟩
    have hb := hk.below (B := w.heap.size) HB.out.size (fun _ h => h)
    clear hc hk
    have HB' := Aside0.mk (HB.out.trans hb)
    have HD' := Aside0.mk hD
    clear hb hD HB HD
    have HB := HB'
    have HD := HD'
    clear HB' HD'
    go_wp2_with fail
    have HF := Aside0.mk (free_calls (fun k => w.heap.size ≤ k) d _ w7 HD.out HROOM.out (by show 0 * 8 ≤ _; decide))
    rw [(show wrap64 (freeL (noneA (n : Int) q0 (List.replicate x 0, 0) [(([102] : Nm), q0)])) = (nx : Int) by rw [free_none, List.length_replicate]; exact G11.out)] at HF
    refine HF.out.mono ?_
    rintro _ w8 ⟨rfl, hb⟩
    have hD := DAt.below HD.out hb
    replace hb : Below w.heap.size _ _ := hb.mono HB.out.size
    clear HF
    have HB' := Aside0.mk (HB.out.trans hb)
    have HD' := Aside0.mk hD
    clear hb hD HB HD
    have HB := HB'
    have HD := HD'
    clear HB' HD'
    go_wp2_with fail
    have hc := flush_calls (fun k => w.heap.size ≤ k) d _ w8 HD.out (fun k hk => by have := HB.out.size; omega) calm_left
    have hev := (show flushL (noneA (n : Int) q0 (List.replicate x 0, 0) [(([102] : Nm), q0)]) = (0, noneA (n : Int) q0 (List.replicate x 0, 0) []) from flush_calm _ rfl)
    rw [hev] at hc
    clear hev
    refine hc.mono ?_
    rintro _ w9 ⟨rfl, hD, hk⟩
    have hb := hk.below (B := w.heap.size) HB.out.size (fun _ h => h)
    clear hc hk
    have HB' := Aside0.mk (HB.out.trans hb)
    have HD' := Aside0.mk hD
    clear hb hD HB HD
    have HB := HB'
    have HD := HD'
    clear HB' HD'
    go_wp2_with fail
    have HF := Aside0.mk (free_calls (fun k => w.heap.size ≤ k) d _ w9 HD.out HROOM.out (by show 0 * 8 ≤ _; decide))
    rw [(show wrap64 (freeL (noneA (n : Int) q0 (List.replicate x 0, 0) [])) = (n : Int) by rw [free_all]; exact HROOM.out)] at HF
    refine HF.out.mono ?_
    rintro _ w10 ⟨rfl, hb⟩
    have hD := DAt.below HD.out hb
    replace hb : Below w.heap.size _ _ := hb.mono HB.out.size
    clear HF
    have HB' := Aside0.mk (HB.out.trans hb)
    have HD' := Aside0.mk hD
    clear hb hD HB HD
    have HB := HB'
    have HD := HD'
    clear HB' HD'
    go_wp2_with fail
    go_ret
    exact ⟨rfl, HB.out⟩
  · obtain ⟨z, hz⟩ : ∃ z, z = nx - y := ⟨_, rfl⟩
    obtain ⟨k, hk⟩ : ∃ k, k = n - y := ⟨_, rfl⟩
    have HC := Aside0.mk hyn
    have HZ := Aside0.mk (show wrap64 ((n : Int) - (x : Int) - (y : Int)) = (z : Int) from wrap_diff2 n x y nx z HNUM.out.2.1 HNUM.out.1 hyn hz (by have := HNUM.out; omega))
    have HK := Aside0.mk (show wrap64 ((n : Int) - (y : Int)) = (k : Int) from wrap_diff n y k hk (by have := HNUM.out; omega) (by have := HNUM.out; omega))
    have hzk := wrap_sum2 n x y nx z k HNUM.out.2.1 HNUM.out.1 hyn hz hk (by have := HNUM.out; omega)
    clear hyn hz hk g12
    have hcc : (y ≤ nx) = True := eq_true HC.out
    have hcd : ((y : Int) ≤ (nx : Int)) = True := eq_true (by have := HC.out; omega)
    obtain ⟨hs1, hs2⟩ := src_new HD.out (List.replicate y 0) (0, 0) (w1 := w3.alloc (.cells (madeCells #[.int .u8 0] y) 5 (0, 0))) (by rw [made_zero])
    simp only [List.length_replicate] at hs2
    have hc := write_at w.heap.size d _ (⟨#[103]⟩ : ByteArray) (.slice (some ⟨w3.heap.size, 0, none⟩) y y) (List.replicate y 0) _ _ hs1 hs2 (by have := HB.out.size; simp; omega) (fun k h => h.1) (fun k h => ⟨by have := HB.out.size; simp at h; omega, by simp at h; omega⟩) (by decide) (by show 1 ≤ _; decide) HROOM.out calm_left (fun f hf => by cases hf) (by rw [List.length_replicate]; have := HNUM.out; omega)
    clear hs1 hs2
    refine hc.mono ?_
    rintro _ w4 ⟨q, hq, he, hD, hb⟩
    have hne : q0 ≠ q := by
      have h1 : q0 < w3.heap.size := HD.out.lt (.inl ⟨[102], List.mem_singleton.2 rfl⟩)
      simp at hq
      omega
    clear hq
    have HNE := Aside0.mk hne
    clear hne
    have hev := (show writeL (oneA (n : Int) q0 (List.replicate x 0, 0) []) (⟨#[103]⟩ : ByteArray).data.toList (List.replicate y 0) q = (0, twoA (n : Int) q0 (List.replicate x 0, 0) q (List.replicate y 0, 0) [([102], q0), ([103], q)] []) from write_g (n : Int) q0 (List.replicate x 0, 0) (List.replicate y 0) q (by rw [List.length_replicate]; exact G11.out.trans (by have := HNUM.out; omega)) (by rw [List.length_replicate, List.length_replicate]; have := HNUM.out; have := HC.out; omega))
    rw [hev] at he hD
    subst he
    replace hb := ((below_alloc (Below.refl w3.heap.size w3) (.cells (madeCells #[.int .u8 0] y) 5 (0, 0))).mono HB.out.size).trans hb
    clear hc hev
    have HB' := Aside0.mk (HB.out.trans hb)
    have HD' := Aside0.mk hD
    clear hb hD HB HD
    have HB := HB'
    have HD := HD'
    clear HB' HD'
    go_wp2_with fail
    have hc := flush_calls (fun k => w.heap.size ≤ k) d _ w4 HD.out (fun k hk => by have := HB.out.size; omega) calm_left
    have hev := (show flushL (twoA (n : Int) q0 (List.replicate x 0, 0) q (List.replicate y 0, 0) [([102], q0), ([103], q)] []) = (0, twoA (n : Int) q0 (List.replicate x 0, 0) q (List.replicate y 0, 0) [([102], q0), ([103], q)] [([102], q0), ([103], q)]) from flush_calm _ rfl)
    rw [hev] at hc
    clear hev
    refine hc.mono ?_
    rintro _ w5 ⟨rfl, hD, hk⟩
    have hb := hk.below (B := w.heap.size) HB.out.size (fun _ h => h)
    clear hc hk
    have HB' := Aside0.mk (HB.out.trans hb)
    have HD' := Aside0.mk hD
    clear hb hD HB HD
    have HB := HB'
    have HD := HD'
    clear HB' HD'
    go_wp2_with fail
    have HF := Aside0.mk (free_calls (fun k => w.heap.size ≤ k) d _ w5 HD.out HROOM.out (by show 2 * 8 ≤ _; decide))
    rw [(show wrap64 (freeL (twoA (n : Int) q0 (List.replicate x 0, 0) q (List.replicate y 0, 0) [([102], q0), ([103], q)] [([102], q0), ([103], q)])) = (z : Int) by rw [free_two _ _ _ _ _ _ HNE.out (fun z hz => by simp at hz; rcases hz with rfl | rfl; exact .inl rfl; exact .inr rfl), List.length_replicate, List.length_replicate]; exact HZ.out)] at HF
    refine HF.out.mono ?_
    rintro _ w6 ⟨rfl, hb⟩
    have hD := DAt.below HD.out hb
    replace hb : Below w.heap.size _ _ := hb.mono HB.out.size
    clear HF
    have HB' := Aside0.mk (HB.out.trans hb)
    have HD' := Aside0.mk hD
    clear hb hD HB HD
    have HB := HB'
    have HD := HD'
    clear HB' HD'
    go_wp2_with fail
    have hc := remove_calls (fun k => w.heap.size ≤ k) d _ (⟨#[102]⟩ : ByteArray) w6 HD.out (fun k hk => by have := HB.out.size; omega) (by decide) calm_left
    have hev := (show remL (twoA (n : Int) q0 (List.replicate x 0, 0) q (List.replicate y 0, 0) [([102], q0), ([103], q)] [([102], q0), ([103], q)]) (⟨#[102]⟩ : ByteArray).data.toList = (0, twoA (n : Int) q0 (List.replicate x 0, 0) q (List.replicate y 0, 0) [([103], q)] [([102], q0), ([103], q)]) from rem_f _ _ q0 rfl rfl)
    rw [hev] at hc
    clear hev
    refine hc.mono ?_
    rintro _ w7 ⟨rfl, hD, hk⟩
    have hb := hk.below (B := w.heap.size) HB.out.size (fun _ h => h)
    clear hc hk
    have HB' := Aside0.mk (HB.out.trans hb)
    have HD' := Aside0.mk hD
    clear hb hD HB HD
    have HB := HB'
    have HD := HD'
    clear HB' HD'
    go_wp2_with fail
    have HF := Aside0.mk (free_calls (fun k => w.heap.size ≤ k) d _ w7 HD.out HROOM.out (by show 1 * 8 ≤ _; decide))
    rw [(show wrap64 (freeL (twoA (n : Int) q0 (List.replicate x 0, 0) q (List.replicate y 0, 0) [([103], q)] [([102], q0), ([103], q)])) = (z : Int) by rw [free_left _ _ _ _ _ HNE.out, List.length_replicate, List.length_replicate]; exact HZ.out)] at HF
    refine HF.out.mono ?_
    rintro _ w8 ⟨rfl, hb⟩
    have hD := DAt.below HD.out hb
    replace hb : Below w.heap.size _ _ := hb.mono HB.out.size
    clear HF
    have HB' := Aside0.mk (HB.out.trans hb)
    have HD' := Aside0.mk hD
    clear hb hD HB HD
    have HB := HB'
    have HD := HD'
    clear HB' HD'
    go_wp2_with fail
    have hc := flush_calls (fun k => w.heap.size ≤ k) d _ w8 HD.out (fun k hk => by have := HB.out.size; omega) calm_left
    have hev := (show flushL (twoA (n : Int) q0 (List.replicate x 0, 0) q (List.replicate y 0, 0) [([103], q)] [([102], q0), ([103], q)]) = (0, twoA (n : Int) q0 (List.replicate x 0, 0) q (List.replicate y 0, 0) [([103], q)] [([103], q)]) from flush_calm _ rfl)
    rw [hev] at hc
    clear hev
    refine hc.mono ?_
    rintro _ w9 ⟨rfl, hD, hk⟩
    have hb := hk.below (B := w.heap.size) HB.out.size (fun _ h => h)
    clear hc hk
    have HB' := Aside0.mk (HB.out.trans hb)
    have HD' := Aside0.mk hD
    clear hb hD HB HD
    have HB := HB'
    have HD := HD'
    clear HB' HD'
    go_wp2_with fail
    have HF := Aside0.mk (free_calls (fun k => w.heap.size ≤ k) d _ w9 HD.out HROOM.out (by show 1 * 8 ≤ _; decide))
    rw [(show wrap64 (freeL (twoA (n : Int) q0 (List.replicate x 0, 0) q (List.replicate y 0, 0) [([103], q)] [([103], q)])) = (k : Int) by rw [free_last, List.length_replicate]; exact HK.out)] at HF
    refine HF.out.mono ?_
    rintro _ w10 ⟨rfl, hb⟩
    have hD := DAt.below HD.out hb
    replace hb : Below w.heap.size _ _ := hb.mono HB.out.size
    clear HF
    have HB' := Aside0.mk (HB.out.trans hb)
    have HD' := Aside0.mk hD
    clear hb hD HB HD
    have HB := HB'
    have HD := HD'
    clear HB' HD'
    go_wp2_with fail
    go_ret
    exact ⟨rfl, HB.out⟩

end Go.Proofs.Ytgpinkgfgkolfaa.PD
