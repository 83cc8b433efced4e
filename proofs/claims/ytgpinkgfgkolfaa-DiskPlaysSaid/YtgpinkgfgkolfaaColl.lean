/- slices.Collect over the values of a map of pointers. -/
import Derived.Test.YtgpinkgfgkolfaaVals
import Derived.RangeFuncNested
import Derived.RangeFuncBound
import Derived.RangeFuncCalls
import Derived.RangeFuncBox
import Derived.Maps.AppendAt
import Derived.Shelf.RegionOpen
namespace Go.Proofs.Ytgpinkgfgkolfaa.PD
open Go.RowKit Go.Proofs.YtgpinkgfgkolfaaW.PrintWords Go.Proofs.YtgpinkgfgkolfaaW.PrintLast Go.Proofs.YtgpinkgfgkolfaaW.PrintMore
set_option linter.unusedVariables false
set_option linter.unusedSimpArgs false
set_option maxHeartbeats 4000000
set_option maxRecDepth 100000

open Go.Proofs Go.Maps Go.Sort Go.Shelf
attribute [local go_sem] Oper.semAt_some
theorem infoP : (Try.prog.info? 63).map (fun i => (i.zero, i.size, i.bytes)) = some (some (.pointer none), 1, 8) := by kernel_rfl
theorem ownsMap_alloc {b nn : Nat} {D0 : DataW Unit} {w : World} (h : w.ownsMap Try.prog 9 ptrRd b nn D0) (o : Obj) : (w.alloc o).ownsMap Try.prog 9 ptrRd b nn D0 := World.ownsMap.alloc h o
set_option maxRecDepth 100000 in
set_option maxHeartbeats 4000000 in
theorem appendSeq_in (F : Fence) (n : Nat) (hAP : F.fn 47) (hVI : F.fn 48) (hro : F.round = none) (hn : 3 ≤ n) (Bm b nn : Nat) (D0 : DataW Unit) (hsz : Maps.size D0 * 8 ≤ 140737488351232) (w : World) (hBm : Bm < w.heap.size)
    (hm : w.cell? ⟨Bm, 0, none⟩ = some (.map (some b))) (hown : w.ownsMap Try.prog 9 ptrRd b nn D0) :
    CallsIn F n Try.prog 47 #[.slice none 0 0, .func (.func 48) #[] #[.pointer (some ⟨Bm, 0, none⟩)]] w fun e W' => ∃ v ps, e = .returned v ∧ AllOf D0 ps ∧ W'.ownsRow w.heap.size 63 1 v ps.length ((ps.map (·.2)).map ptrV) ∧ Below w.heap.size w W' := by
  have h1 : 1 ≤ n := by omega
  obtain ⟨i0, hi, hz0, hz1, hz2⟩ := info_parts infoP
  refine callsIn_of_wp_marks Try.func47 rfl hAP ?_ hro
  simp only [Try.ntmps47, List.size_toArray, List.length_cons, List.length_nil, Nat.reduceAdd, Nat.reduceSub, Array.replicate_succ, Array.replicate_zero, List.push_toArray, List.append_toArray, List.nil_append, List.cons_append]
  gi_wp2
  have bN := Boxed.new w 67 (.slice none 0 0)
  have hB0 : Below w.heap.size w (w.alloc (.cells #[.slice none 0 0] 67)) := (Below.refl _ w).alloc (Nat.le_refl _) _
  refine wpIn_rangeFunc_ownG hro h1 (gf := 48) (lb := #[.pointer (some ⟨Bm, 0, none⟩)]) rfl hVI (enters_of Try.func48 (by kernel_rfl) rfl)
    (values_stops F (n - 1) hVI hro (by omega) Bm b nn D0 (w.alloc (.cells #[.slice none 0 0] 67)) (by simp; omega) ((hB0.cell (p := ⟨Bm, 0, none⟩) hBm).trans hm) (ownsMap_alloc hown _)) walksK_t walksK_b (Below.refl _ _) (fun _ => rfl)
    (fun pre W => (∃ v, Boxed W w.heap.size 67 v ∧ W.ownsRow w.heap.size 63 1 v pre.length (pre.map ptrV) ∧ True) ∧ Below w.heap.size w W)
    (fun _ _ _ => False)
    (OwnFrom.and (Own.from (holdsRow_own w.heap.size w.heap.size 67 63 1 (fun pre : List (Option Nat) => pre.length) (fun pre => pre.map ptrV) (fun _ _ => True)) _) (ownFrom_below (Nat.le_refl _) (by simp)))
    (fun _ _ _ _ _ hs _ _ => hs)
    ⟨⟨_, bN, World.ownsRow_nil _ _ _ _, trivial⟩, hB0⟩
    (fun x => { tmps := #[.slice none 0 0, .func (.func 48) #[] #[.pointer (some ⟨Bm, 0, none⟩)], .pointer (some ⟨w.heap.size, 0, none⟩), undef, .slice none 0 0, ptrV x, .func (.func 48) #[] #[.pointer (some ⟨Bm, 0, none⟩)], ptrV x, undef, undef, undef, undef, undef], defers := [] }) ?assign ?body ?done ?stop
  case assign =>
    intro l x W K hK
    gi_wp2
    exact hK
  case body =>
    rintro l pre x W ⟨⟨v, hv, hrow, -⟩, hB⟩ hlen
    obtain ⟨px, hpx⟩ : ∃ p, ptrV x = .pointer p := by cases x <;> exact ⟨_, rfl⟩
    rw [hpx]
    have hvc := hv.cell
    gi_wp2_with (gi_at_builtin; refine wpListIn_append_own _ rfl _ _ 67 rfl w.heap.size 63 i0 (.pointer none) 1 8 Try.underlying67 hi hz0 hz1 hz2 rfl (by decide) _ _ _ rfl (hrow.alloc _) ⟨W.heap.size, 0, none⟩ 1 1 [.pointer px] rfl rfl (cell_one_new _ _ _) (by simp [Value.oneCell']) (by unfold maxLen; omega) (by have := hsz; omega) (by have := hB.size; simp; omega) ?_; intro v' w1 hown' hgrow _; obtain ⟨g', cap', rfl⟩ := ownsRow_succ hown'; obtain ⟨hv1, hv2, hr2, hk2, hb2⟩ := hv.appended (by decide) hrow hB.size (Nat.le_refl _) hown' hgrow; have hc1 := hv1.cell; have hf1 := hv1.frozen)
    exact ⟨hk2.from _, hk2.walks, ⟨⟨_, hv2, by simpa [hpx] using hr2, trivial⟩, hB.trans hb2⟩⟩
  case done =>
    rintro D ys W hD ⟨ps, hps, rfl⟩ ⟨⟨v, hv, hrow, -⟩, hB⟩ hK
    have hvc := hv.cell
    gi_wp2
    refine ⟨by simp, .inl ⟨_, _, rfl, run_takeDeferred hK, ?_⟩⟩
    exact ⟨_, results_tmp rfl _ _ _, v, ps, rfl, hps, by rw [List.length_map] at hrow; exact ownsRow_putObj hrow _ hK rfl, hB.trans (belowK_b (w := w) (Nat.le_refl _) W D _ _ (by simp at hD; omega) hK rfl rfl)⟩
  case stop =>
    rintro D c pre W _ _ h _
    exact h.elim

set_option maxRecDepth 100000 in
theorem collect_in (F : Fence) (n : Nat) (hCO : F.fn 25) (hAP : F.fn 47) (hVI : F.fn 48) (hro : F.round = none) (hn : 4 ≤ n) (Bm b nn : Nat) (D0 : DataW Unit) (hsz : Maps.size D0 * 8 ≤ 140737488351232) (w : World) (hBm : Bm < w.heap.size)
    (hm : w.cell? ⟨Bm, 0, none⟩ = some (.map (some b))) (hown : w.ownsMap Try.prog 9 ptrRd b nn D0) :
    CallsIn F n Try.prog 25 #[.func (.func 48) #[] #[.pointer (some ⟨Bm, 0, none⟩)]] w fun e W' => ∃ v ps, e = .returned v ∧ AllOf D0 ps ∧ W'.ownsRow w.heap.size 63 1 v ps.length ((ps.map (·.2)).map ptrV) ∧ Below w.heap.size w W' := by
  have h1 : 1 ≤ n := by omega
  have hin := appendSeq_in F (n - 1) hAP hVI hro (by omega) Bm b nn D0 hsz w hBm hm hown
  refine callsIn_of_wp Try.func25 rfl hCO ?_ hro
  simp only [Try.ntmps25, List.size_toArray, List.length_cons, List.length_nil, Nat.reduceAdd, Nat.reduceSub, Array.replicate_succ, Array.replicate_zero, List.push_toArray, List.append_toArray, List.nil_append, List.cons_append]
  clear hm
  gi_wp2_with (gi_at_call 47; refine hin.mono ?_; rintro e w' ⟨v, ps, rfl, h⟩)
  go_ret
  exact ⟨v, ps, rfl, h⟩

end Go.Proofs.Ytgpinkgfgkolfaa.PD
