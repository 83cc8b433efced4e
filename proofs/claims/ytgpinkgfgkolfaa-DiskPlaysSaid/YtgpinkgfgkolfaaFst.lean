/- The law's first walked. -/
import Derived.Test.YtgpinkgfgkolfaaEv
import Derived.Lib.SlBytesConst
namespace Go.Proofs.Ytgpinkgfgkolfaa.PD
open Go.RowKit Go.Proofs.YtgpinkgfgkolfaaW.PrintWords Go.Proofs.YtgpinkgfgkolfaaW.PrintLast Go.Proofs.YtgpinkgfgkolfaaW.PrintMore
set_option linter.unusedVariables false
set_option linter.unusedSimpArgs false
set_option maxHeartbeats 4000000
set_option maxRecDepth 100000

set_option maxHeartbeats 8000000 in
theorem first_calls (w : World) : Calls Try.prog 7 #[] w fun e w' => e = .returned (.bool true) ∧ Below w.heap.size w w' := by
  have hcb := fun (W : World) (C : Array Value) (n c : Nat) => Lib.run_convert_bytes_const (P := Try.prog) W 29 5 C n c Try.underlying29 Try.underlying5
  go_enter Try.func7, Try.ntmps7
  go_wp2_with fail
  refine (new_calls (fun k => w.heap.size ≤ k) 10 w (fun k hk => hk) (by decide)).mono ?_
  rintro _ w1 ⟨d, rfl, hD, hb⟩
  have HD := Aside0.mk hD
  have HB := Aside0.mk hb
  clear hD hb
  go_wp2_with fail
  obtain ⟨hs1, hs2⟩ := src_new HD.out ([97, 98]) (2, 3) (w1 := w1.alloc (.cells #[.int .u8 97, .int .u8 98] 5 (2, 3))) rfl
  have hc := write_at w.heap.size d _ (⟨#[102]⟩ : ByteArray) (.slice (some ⟨w1.heap.size, 0, none⟩) 2 2) ([97, 98]) _ _ hs1 hs2 (by have := HB.out.size; simp; omega) (fun k h => h.1) (fun k h => ⟨by have := HB.out.size; simp at h; omega, by simp at h; omega⟩) (by decide) (by show 0 ≤ _; decide) (wrap_ok 10 (by decide) (by decide)) calm_left (fun f hf => by cases hf) (by decide)
  clear hs1 hs2
  refine hc.mono ?_
  rintro _ w2 ⟨q, -, he, hD, hb⟩
  have hev := (show writeL (newL 10) (⟨#[102]⟩ : ByteArray).data.toList [97, 98] q = _ from write_new 10 [97, 98] q (wrap_ok 10 (by decide) (by decide)) (by decide))
  rw [hev] at he hD
  subst he
  replace hb := ((below_alloc (Below.refl w1.heap.size w1) (.cells #[.int .u8 97, .int .u8 98] 5 (2, 3))).mono HB.out.size).trans hb
  clear hc hev
  have HB' := Aside0.mk (HB.out.trans hb)
  have HD' := Aside0.mk hD
  clear hb hD HB HD
  have HB := HB'
  have HD := HD'
  clear HB' HD'
  go_wp2_with fail
  have hc := sync_calls (fun k => w.heap.size ≤ k) d _ (⟨#[102]⟩ : ByteArray) w2 HD.out (by decide) calm_left
  have hev := (show syncL (oneA 10 q ([97, 98], 0) []) (⟨#[102]⟩ : ByteArray).data.toList = (0, oneA 10 q ([97, 98], 2) []) from sync_one 10 q _ [])
  rw [hev] at hc
  clear hev
  refine hc.mono ?_
  rintro _ w3 ⟨rfl, hD, hk⟩
  have hb := hk.below (B := w.heap.size) HB.out.size (fun _ h => h)
  clear hc hk
  have HB' := Aside0.mk (HB.out.trans hb)
  have HD' := Aside0.mk hD
  clear hb hD HB HD
  have HB := HB'
  have HD := HD'
  clear HB' HD'
  go_wp2_with fail
  have hc := flush_calls (fun k => w.heap.size ≤ k) d _ w3 HD.out (fun k hk => by have := HB.out.size; omega) calm_left
  have hev := flush_one 10 q ([97, 98], 2) []
  rw [hev] at hc
  clear hev
  refine hc.mono ?_
  rintro _ w4 ⟨rfl, hD, hk⟩
  have hb := hk.below (B := w.heap.size) HB.out.size (fun _ h => h)
  clear hc hk
  have HB' := Aside0.mk (HB.out.trans hb)
  have HD' := Aside0.mk hD
  clear hb hD HB HD
  have HB := HB'
  have HD := HD'
  clear HB' HD'
  go_wp2_with fail
  obtain ⟨q0, hq0⟩ : ∃ x, x = q := ⟨_, rfl⟩
  subst hq0
  obtain ⟨hs1, hs2⟩ := src_new HD.out ([99, 100]) (2, 3) (w1 := w4.alloc (.cells #[.int .u8 99, .int .u8 100] 5 (2, 3))) rfl
  have hc := write_at w.heap.size d _ (⟨#[102]⟩ : ByteArray) (.slice (some ⟨w4.heap.size, 0, none⟩) 2 2) ([99, 100]) _ _ hs1 hs2 (by have := HB.out.size; simp; omega) (fun k h => h.1) (fun k h => ⟨by have := HB.out.size; simp at h; omega, by simp at h; omega⟩) (by decide) (by show 1 ≤ _; decide) (wrap_ok 10 (by decide) (by decide)) calm_left (fun f hf => by cases hf; rw [one_fs]; decide) (by decide)
  clear hs1 hs2
  refine hc.mono ?_
  rintro _ w5 ⟨q, -, he, hD, hb⟩
  have hev := (show writeL (oneA 10 q0 ([97, 98], 2) [([102], q0)]) (⟨#[102]⟩ : ByteArray).data.toList [99, 100] q = (0, oneA 10 q0 ([97, 98, 99, 100], 2) [([102], q0)]) from write_more 10 q0 ([97, 98], 2) _ [99, 100] q (by simp) (wrap_ok _ (by decide) (by decide)) (by decide))
  rw [hev] at he hD
  subst he
  replace hb := ((below_alloc (Below.refl w4.heap.size w4) (.cells #[.int .u8 99, .int .u8 100] 5 (2, 3))).mono HB.out.size).trans hb
  clear hc hev
  have HB' := Aside0.mk (HB.out.trans hb)
  have HD' := Aside0.mk hD
  clear hb hD HB HD
  have HB := HB'
  have HD := HD'
  clear HB' HD'
  go_wp2_with fail
  have hc := crash_calls (fun k => w.heap.size ≤ k) d _ 1 w5 HD.out (fun k hk => by have := HB.out.size; omega) (fun f hf => by rw [one_in hf, one_fs]; decide)
  have hev := (show crashL (oneA 10 q0 ([97, 98, 99, 100], 2) [([102], q0)]) 1 = oneA 10 q0 ([97, 98, 99], 3) [([102], q0)] from crash_one 10 q0 _ 1)
  rw [hev] at hc
  clear hev
  refine hc.mono ?_
  rintro _ w6 ⟨rfl, hD, hk⟩
  have hb := hk.below (B := w.heap.size) HB.out.size (fun _ h => h)
  clear hc hk
  have HB' := Aside0.mk (HB.out.trans hb)
  have HD' := Aside0.mk hD
  clear hb hD HB HD
  have HB := HB'
  have HD := HD'
  clear HB' HD'
  go_wp2_with fail
  have hc := read_calls (fun k => w.heap.size ≤ k) d _ (⟨#[102]⟩ : ByteArray) w6 HD.out (by decide) (fun f hf => by cases hf; rw [one_fs]; decide)
  have hev := (show readL (oneA 10 q0 ([97, 98, 99], 3) [([102], q0)]) (⟨#[102]⟩ : ByteArray).data.toList = some [97, 98, 99] by unfold readL; rw [show findL (oneA 10 q0 ([97, 98, 99], 3) [([102], q0)]).dir (⟨#[102]⟩ : ByteArray).data.toList = some q0 from rfl]; show some ((oneA 10 q0 ([97, 98, 99], 3) [([102], q0)]).fs q0).1 = _; rw [one_fs])
  rw [hev] at hc
  clear hev
  refine hc.mono ?_
  rintro _ w7 ⟨v7, rfl, hr7, hb⟩
  have hD := DAt.below HD.out hb
  replace hb : Below w.heap.size _ _ := hb.mono HB.out.size
  clear hc
  have HB' := Aside0.mk (HB.out.trans hb)
  have HD' := Aside0.mk hD
  clear hb hD HB HD
  have HB := HB'
  have HD := HD'
  clear HB' HD'
  go_wp2_with fail
  have hc := read_calls (fun k => w.heap.size ≤ k) d _ (⟨#[103]⟩ : ByteArray) w7 HD.out (by decide) (fun f hf => by cases hf)
  have hev := (show readL (oneA 10 q0 ([97, 98, 99], 3) [([102], q0)]) (⟨#[103]⟩ : ByteArray).data.toList = none from rfl)
  rw [hev] at hc
  clear hev
  refine hc.mono ?_
  rintro _ w8 ⟨v8, rfl, hr8, hb⟩
  have hcv := (hr7.keep (w' := w8) (fun g cur _ hg => hb.block g (Array.getElem?_eq_some_iff.1 hg).1)).string
  have hD := DAt.below HD.out hb
  replace hb : Below w.heap.size _ _ := hb.mono HB.out.size
  clear hc
  have HB' := Aside0.mk (HB.out.trans hb)
  have HD' := Aside0.mk hD
  clear hb hD HB HD
  have HB := HB'
  have HD := HD'
  clear HB' HD'

  have HF := Aside0.mk (free_calls (fun k => w.heap.size ≤ k) d _ w8 HD.out (wrap_ok 10 (by decide) (by decide)) (by show 1 * 8 ≤ _; decide))
  rw [free_one _ _ _ _ (by simp), show wrap64 (10 - (([97, 98, 99] : List UInt8).length : Int)) = 7 from wrap_ok 7 (by decide) (by decide)] at HF
  have hmk : ∀ W : World, (Instr.makeSlice 29 (.int .i64 8) (.int .i64 8)).run Try.prog W = .ok (.slice (some ⟨W.heap.size, 0, none⟩) 8 8) (W.alloc (.cells (madeCells #[.int .u8 0] 8) 5)) := fun W => run_make_row' (P := Try.prog) 29 5 (.int .u8 0) 1 Try.underlying29 info8 rfl .i64 .i64 8 (by decide) (by decide) W
  clear hr7 hr8
  go_wp2_with fail
  refine HF.out.mono ?_
  rintro _ w9 ⟨rfl, hb⟩
  have hD := DAt.below HD.out hb
  replace hb : Below w.heap.size _ _ := hb.mono HB.out.size
  clear HF hcv
  have HB' := Aside0.mk (HB.out.trans hb)
  have HD' := Aside0.mk hD
  clear hb hD HB HD
  have HB := HB'
  have HD := HD'
  clear HB' HD'
  go_wp2_with fail
  obtain ⟨hs1, hs2⟩ := src_new HD.out (List.replicate 8 0) (0, 0) (w1 := w9.alloc (.cells (madeCells #[.int .u8 0] 8) 5 (0, 0))) (by rw [made_zero])
  have hc := write_at w.heap.size d _ (⟨#[103]⟩ : ByteArray) (.slice (some ⟨w9.heap.size, 0, none⟩) 8 8) (List.replicate 8 0) _ _ hs1 hs2 (by have := HB.out.size; simp; omega) (fun k h => h.1) (fun k h => ⟨by have := HB.out.size; simp at h; omega, by simp at h; omega⟩) (by decide) (by show 1 ≤ _; decide) (wrap_ok 10 (by decide) (by decide)) calm_left (fun f hf => by cases hf) (by decide)
  clear hs1 hs2
  refine hc.mono ?_
  rintro _ w10 ⟨q, -, he, hD, hb⟩
  have hev := (show writeL (oneA 10 q0 ([97, 98, 99], 3) [([102], q0)]) (⟨#[103]⟩ : ByteArray).data.toList (List.replicate 8 0) q = _ from write_full _ _ _ q rfl (by decide) (by rw [free_one _ _ _ _ (by simp), show wrap64 (10 - (([97, 98, 99] : List UInt8).length : Int)) = 7 from wrap_ok 7 (by decide) (by decide)]; decide))
  rw [hev] at he hD
  subst he
  replace hb := ((below_alloc (Below.refl w9.heap.size w9) (.cells (madeCells #[.int .u8 0] 8) 5 (0, 0))).mono HB.out.size).trans hb
  clear hc hev
  have HB' := Aside0.mk (HB.out.trans hb)
  have HD' := Aside0.mk hD
  clear hb hD HB HD
  have HB := HB'
  have HD := HD'
  clear HB' HD'
  go_wp2_with fail
  go_ret
  exact ⟨rfl, HB.out⟩

end Go.Proofs.Ytgpinkgfgkolfaa.PD
