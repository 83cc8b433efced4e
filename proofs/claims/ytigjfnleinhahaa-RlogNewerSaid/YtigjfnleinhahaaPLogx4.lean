-- Written for this claim by a program of this session (wip/tools/myprint.py) out of the translation. Not trusted: Lean checks it.
import Derived.Test.YtigjfnleinhahaaPLogx0
import Derived.Test.YtigjfnleinhahaaPLogx3
namespace Go.Proofs.Ytigjfnleinhahaa.PLog
open Go.RowKit Go.Proofs.YtigjfnleinhahaaW.PrintWords Go.Proofs.YtigjfnleinhahaaW.PrintLast Go.Proofs.YtigjfnleinhahaaW.PrintMore
attribute [local go_sem] max2_int min2_int max_two min_two max_three min_three max_four min_four   -- for this text's walks alone
set_option linter.unusedVariables false
set_option linter.unusedSimpArgs false

/-! ### calepinref20_Same: function 19 -/
def calepinref20_Same.l0 : Nat → List (S60) → List (S60) → Int → Int → Option (Bool)
  | 0, _, _, _, _ => none
  | k + 1, x0, x1, x12, x13 => if x13 < x12 then (if 0 ≤ x13 then (if x13 < (x0.length : Int) then (if x13 < (x1.length : Int) then ((calepinref20_One.f k ((rd_T60 x0 x13).f0) ((rd_T60 x0 x13).f1) ((rd_T60 x0 x13).f2.f0) ((rd_T60 x0 x13).f2.f1) ((rd_T60 x0 x13).f2.f2) ((rd_T60 x0 x13).f2.f3) ((rd_T60 x0 x13).f2.f4) ((rd_T60 x0 x13).f2.f5) ((rd_T60 x0 x13).f2.f6) ((rd_T60 x0 x13).f2.f7) ((rd_T60 x0 x13).f2.f8) ((rd_T60 x0 x13).f2.f9) ((rd_T60 x0 x13).f2.f10) ((rd_T60 x0 x13).f3) ((rd_T60 x1 x13).f0) ((rd_T60 x1 x13).f1) ((rd_T60 x1 x13).f2.f0) ((rd_T60 x1 x13).f2.f1) ((rd_T60 x1 x13).f2.f2) ((rd_T60 x1 x13).f2.f3) ((rd_T60 x1 x13).f2.f4) ((rd_T60 x1 x13).f2.f5) ((rd_T60 x1 x13).f2.f6) ((rd_T60 x1 x13).f2.f7) ((rd_T60 x1 x13).f2.f8) ((rd_T60 x1 x13).f2.f9) ((rd_T60 x1 x13).f2.f10) ((rd_T60 x1 x13).f3)).bind fun t199 => (if t199 = true then (calepinref20_Same.l0 k x0 x1 x12 (wrap64 (x13 + 1))) else (some false))) else (none)) else (none)) else (none)) else (some true)
def calepinref20_Same.f (k : Nat) (l0 : List (S60)) (l1 : List (S60)) : Option (Bool) := if (l0.length : Int) = (l1.length : Int) then (calepinref20_Same.l0 k l0 l1 (l0.length : Int) 0) else (some false)
theorem calepinref20_Same.mono_l : ∀ k, (∀ y0 y1 y2 y3, LeO (calepinref20_Same.l0 k y0 y1 y2 y3) (calepinref20_Same.l0 (k + 1) y0 y1 y2 y3))
  | 0 => fun _ _ _ _ r h => by simp [calepinref20_Same.l0] at h
  | k + 1 => by
    have ih0 := calepinref20_Same.mono_l k
    · intro y0 y1 y2 y3
      unfold calepinref20_Same.l0
      repeat' first
      | (with_reducible exact ih0 _ _ _ _)
      | (with_reducible exact calepinref20_One.mono _ _ _ _ _ _ _ _ _ _ _ _ _ _ _ _ _ _ _ _ _ _ _ _ _ _ _ _ _)
      | (with_reducible exact LeO.refl _)
      | (with_reducible exact LeO.none _)
      | (with_reducible refine LeO.ite ?_ ?_)
      | (with_reducible refine LeO.bind ?_ (fun _ => ?_))
      | exact ih0 _ _ _ _
      | exact calepinref20_One.mono _ _ _ _ _ _ _ _ _ _ _ _ _ _ _ _ _ _ _ _ _ _ _ _ _ _ _ _ _
      | exact LeO.none _
      | refine LeO.ite ?_ ?_
      | refine LeO.bind ?_ (fun _ => ?_)
theorem calepinref20_Same.mono : ∀ a0 a1 k, LeO (calepinref20_Same.f k a0 a1) (calepinref20_Same.f (k + 1) a0 a1) := by
  intro a0 a1 k
  have ih0 := calepinref20_Same.mono_l k
  unfold calepinref20_Same.f
  repeat' first
      | (with_reducible exact ih0 _ _ _ _)
      | (with_reducible exact calepinref20_One.mono _ _ _ _ _ _ _ _ _ _ _ _ _ _ _ _ _ _ _ _ _ _ _ _ _ _ _ _ _)
      | (with_reducible exact LeO.refl _)
      | (with_reducible exact LeO.none _)
      | (with_reducible refine LeO.ite ?_ ?_)
      | (with_reducible refine LeO.bind ?_ (fun _ => ?_))
      | exact ih0 _ _ _ _
      | exact calepinref20_One.mono _ _ _ _ _ _ _ _ _ _ _ _ _ _ _ _ _ _ _ _ _ _ _ _ _ _ _ _ _
      | exact LeO.none _
      | refine LeO.ite ?_ ?_
      | refine LeO.bind ?_ (fun _ => ?_)
def calepinref20_Same.T6 : Bool × List (List Nat × List Nat) := (true, [([], []), ([], []), ([0, 1], [0, 1]), ([2], [2]), ([], []), ([], []), ([4, 5], [4, 5]), ([6], [6]), ([3, 7], [3, 7]), ([8], [8])])
def calepinref20_Same.B6 : List Nat := [0, 0, 3, 7, 0, 0, 48, 112, 255, 511]
theorem calepinref20_Same.tab6 : rtab .any (opsOf Try.f19 6) = calepinref20_Same.T6 := by kernel_rfl
theorem calepinref20_Same.bits6 : waitsOk calepinref20_Same.T6.2 calepinref20_Same.B6 = true := by kernel_rfl
set_option maxHeartbeats 8000000 in
set_option maxRecDepth 100000 in
theorem calepinref20_Same.calls (k : Nat) (A0 : Option Addr) (c0 : Nat) (l0 : List (S60)) (A1 : Option Addr) (c1 : Nat) (l1 : List (S60)) (r : Bool) (w : World) (hr0 : Kd.C k60 w A0 l0.length l0) (hc0 : l0.length ≤ c0) (hr1 : Kd.C k60 w A1 l1.length l1) (hc1 : l1.length ≤ c1) (h : calepinref20_Same.f k l0 l1 = some r) :
    Calls Try.prog 19 #[.slice A0 l0.length c0, .slice A1 l1.length c1] w fun e w' => e = .returned (.bool r) ∧ Below w.heap.size w w' := by
  have hu60 := Try.underlying60
  have HR0 := Aside0.mk hr0
  have HC0 := Aside0.mk hc0
  clear hr0 hc0
  have HR1 := Aside0.mk hr1
  have HC1 := Aside0.mk hc1
  clear hr1 hc1
  have HB := Aside0.mk (Below.refl w.heap.size w)
  have H : (if (l0.length : Int) = (l1.length : Int) then (calepinref20_Same.l0 k l0 l1 (l0.length : Int) 0) else (some false)) = some r := h
  clear h
  by_cases c3 : (l0.length : Int) = (l1.length : Int)
  · rw [if_pos c3] at H
    have c3b0 : ((l0.length : Int) == (l1.length : Int)) = true := beq_iff_eq.mpr c3
    have c3b1 : ((l0.length : Int) != (l1.length : Int)) = false := bne_eq_false_iff_eq.mpr c3
    have c3b2 : (l0.length == l1.length) = true := by first | simpa using c3 | (simp at c3 ⊢; omega)
    clear c3
    have H' := Aside0.mk H
    clear H
    go_enter Try.func19, Try.ntmps19
    go_wp2
    go_loopg [13] k (fun kq v13 w' => ∃ (x13_1 : Int), v13 = .int .i64 x13_1 ∧ Aside0 (calepinref20_Same.l0 kq l0 l1 (l0.length : Int) x13_1 = some r) ∧ Aside0 (kq ≤ k) ∧ Aside0 (Below w.heap.size w w'))
    case atStart => exact ⟨(0), (by first | rfl | (simp; done) | (simp [*]; done)), H', ⟨Nat.le_refl _⟩, ⟨by repeat (first | (with_reducible first | exact HB.out | apply below_alloc | apply pw_below_drewN | apply below_drew1) | exact HB.out)⟩⟩
    case round =>
      clear H'
      try clear c1
      try clear p2
      try clear c3
      try clear c3b0
      try clear c3b1
      try clear c3b2
      obtain ⟨x13_1, rfl, HA, HK1, HB⟩ := hrel
      cases gk with
      | zero => exact absurd HA.out (by simp [calepinref20_Same.l0])
      | succ k1 =>
        have H := HA.out
        clear HA
        simp only [calepinref20_Same.l0] at H
        by_cases c4 : x13_1 < (l0.length : Int)
        · rw [if_pos c4] at H
          have c4b0 : decide (x13_1 < (l0.length : Int)) = true := decide_eq_true c4
          clear c4
          by_cases c5 : 0 ≤ x13_1
          · rw [if_pos c5] at H
            have c5b0 : decide (0 ≤ x13_1) = true := decide_eq_true c5
            clear c5
            by_cases c6 : x13_1 < (l0.length : Int)
            · rw [if_pos c6] at H
              have c6b0 : decide (x13_1 < (l0.length : Int)) = true := decide_eq_true c6
              clear c6
              by_cases c7 : x13_1 < (l1.length : Int)
              · rw [if_pos c7] at H
                have c7b0 : decide (x13_1 < (l1.length : Int)) = true := decide_eq_true c7
                clear c7
                replace H := Option.bind_eq_some_iff.mp H
                obtain ⟨t199, A80, H⟩ := H
                replace H : (if t199 = true then (calepinref20_Same.l0 k1 l0 l1 (l0.length : Int) (wrap64 (x13_1 + 1))) else (some false)) = some r := H
                have A8 := Aside0.mk A80
                clear A80
                by_cases c9 : t199 = true
                · subst c9
                  have H1 : (calepinref20_Same.l0 k1 l0 l1 (l0.length : Int) (wrap64 (x13_1 + 1))) = some r := by rw [if_pos rfl] at H; exact H
                  clear H
                  have H := H1
                  clear H1
                  have H' := Aside0.mk H
                  clear H
                  try go_wp2
                  have n0_ := Aside0.mk (below_drew1 HB.out)
                  clear HB
                  have HB := n0_
                  clear n0_
                  have p197 : 0 ≤ (x13_1 : Int) := of_decide_eq_true (by first | (with_reducible assumption) | assumption)
                  have q197 : x13_1 < (l0.length : Int) := of_decide_eq_true (by first | (with_reducible assumption) | assumption)
                  obtain ⟨ad197, A197_9, c197_9, A197_13, c197_13, e197, hx197_0, hx197_1, hx197_2, hx197_3, hx197_4, hx197_5, hx197_6, hx197_7, hx197_8, hx197_9, hx197_10, hx197_11, hx197_12, hx197_13, hl197_9, hi197_9, hl197_13, hi197_13⟩ := at_T60 HR0.out x13_1 p197 q197
                  have hw197_13 := hx197_13
                  have hw197_12 := hx197_12
                  have hw197_11 := hx197_11
                  have hw197_10 := hx197_10
                  have hw197_9 := hx197_9
                  have hw197_8 := hx197_8
                  have hw197_7 := hx197_7
                  have hw197_6 := hx197_6
                  have hw197_5 := hx197_5
                  have hw197_4 := hx197_4
                  have hw197_3 := hx197_3
                  have hw197_2 := hx197_2
                  have hw197_1 := hx197_1
                  have hw197_0 := hx197_0
                  cases e197
                  replace hx197_0 := (HB.out.cell (World.block_lt_of_cell? w _ hx197_0)).trans hx197_0
                  replace hx197_1 := (HB.out.cell (World.block_lt_of_cell? w _ hx197_1)).trans hx197_1
                  replace hx197_2 := (HB.out.cell (World.block_lt_of_cell? w _ hx197_2)).trans hx197_2
                  replace hx197_3 := (HB.out.cell (World.block_lt_of_cell? w _ hx197_3)).trans hx197_3
                  replace hx197_4 := (HB.out.cell (World.block_lt_of_cell? w _ hx197_4)).trans hx197_4
                  replace hx197_5 := (HB.out.cell (World.block_lt_of_cell? w _ hx197_5)).trans hx197_5
                  replace hx197_6 := (HB.out.cell (World.block_lt_of_cell? w _ hx197_6)).trans hx197_6
                  replace hx197_7 := (HB.out.cell (World.block_lt_of_cell? w _ hx197_7)).trans hx197_7
                  replace hx197_8 := (HB.out.cell (World.block_lt_of_cell? w _ hx197_8)).trans hx197_8
                  replace hx197_9 := (HB.out.cell (World.block_lt_of_cell? w _ hx197_9)).trans hx197_9
                  replace hx197_10 := (HB.out.cell (World.block_lt_of_cell? w _ hx197_10)).trans hx197_10
                  replace hx197_11 := (HB.out.cell (World.block_lt_of_cell? w _ hx197_11)).trans hx197_11
                  replace hx197_12 := (HB.out.cell (World.block_lt_of_cell? w _ hx197_12)).trans hx197_12
                  replace hx197_13 := (HB.out.cell (World.block_lt_of_cell? w _ hx197_13)).trans hx197_13
                  have HR197_9 := Aside0.mk hi197_9
                  have HC197_9 := Aside0.mk hl197_9
                  clear hi197_9 hl197_9
                  have HR197_13 := Aside0.mk hi197_13
                  have HC197_13 := Aside0.mk hl197_13
                  clear hi197_13 hl197_13
                  replace p197 := eq_true p197
                  replace q197 := eq_true q197
                  have p198 : 0 ≤ (x13_1 : Int) := of_decide_eq_true (by first | (with_reducible assumption) | assumption)
                  have q198 : x13_1 < (l1.length : Int) := of_decide_eq_true (by first | (with_reducible assumption) | assumption)
                  obtain ⟨ad198, A198_9, c198_9, A198_13, c198_13, e198, hx198_0, hx198_1, hx198_2, hx198_3, hx198_4, hx198_5, hx198_6, hx198_7, hx198_8, hx198_9, hx198_10, hx198_11, hx198_12, hx198_13, hl198_9, hi198_9, hl198_13, hi198_13⟩ := at_T60 HR1.out x13_1 p198 q198
                  have hw198_13 := hx198_13
                  have hw198_12 := hx198_12
                  have hw198_11 := hx198_11
                  have hw198_10 := hx198_10
                  have hw198_9 := hx198_9
                  have hw198_8 := hx198_8
                  have hw198_7 := hx198_7
                  have hw198_6 := hx198_6
                  have hw198_5 := hx198_5
                  have hw198_4 := hx198_4
                  have hw198_3 := hx198_3
                  have hw198_2 := hx198_2
                  have hw198_1 := hx198_1
                  have hw198_0 := hx198_0
                  cases e198
                  replace hx198_0 := (HB.out.cell (World.block_lt_of_cell? w _ hx198_0)).trans hx198_0
                  replace hx198_1 := (HB.out.cell (World.block_lt_of_cell? w _ hx198_1)).trans hx198_1
                  replace hx198_2 := (HB.out.cell (World.block_lt_of_cell? w _ hx198_2)).trans hx198_2
                  replace hx198_3 := (HB.out.cell (World.block_lt_of_cell? w _ hx198_3)).trans hx198_3
                  replace hx198_4 := (HB.out.cell (World.block_lt_of_cell? w _ hx198_4)).trans hx198_4
                  replace hx198_5 := (HB.out.cell (World.block_lt_of_cell? w _ hx198_5)).trans hx198_5
                  replace hx198_6 := (HB.out.cell (World.block_lt_of_cell? w _ hx198_6)).trans hx198_6
                  replace hx198_7 := (HB.out.cell (World.block_lt_of_cell? w _ hx198_7)).trans hx198_7
                  replace hx198_8 := (HB.out.cell (World.block_lt_of_cell? w _ hx198_8)).trans hx198_8
                  replace hx198_9 := (HB.out.cell (World.block_lt_of_cell? w _ hx198_9)).trans hx198_9
                  replace hx198_10 := (HB.out.cell (World.block_lt_of_cell? w _ hx198_10)).trans hx198_10
                  replace hx198_11 := (HB.out.cell (World.block_lt_of_cell? w _ hx198_11)).trans hx198_11
                  replace hx198_12 := (HB.out.cell (World.block_lt_of_cell? w _ hx198_12)).trans hx198_12
                  replace hx198_13 := (HB.out.cell (World.block_lt_of_cell? w _ hx198_13)).trans hx198_13
                  have HR198_9 := Aside0.mk hi198_9
                  have HC198_9 := Aside0.mk hl198_9
                  clear hi198_9 hl198_9
                  have HR198_13 := Aside0.mk hi198_13
                  have HC198_13 := Aside0.mk hl198_13
                  clear hi198_13 hl198_13
                  replace p198 := eq_true p198
                  replace q198 := eq_true q198
                  refine start_ (n := 10) (S := fun w' => w'.cell? (ad197.add ((x13_1).toNat * 14)) = some (.int .i64 ((rd_T60 l0 x13_1).f0)) ∧ w'.cell? ⟨(ad197.add ((x13_1).toNat * 14)).block, (ad197.add ((x13_1).toNat * 14)).off + 1, none⟩ = some (.int .i64 ((rd_T60 l0 x13_1).f1)) ∧ w'.cell? ⟨(ad197.add ((x13_1).toNat * 14)).block, (ad197.add ((x13_1).toNat * 14)).off + 2, none⟩ = some (.int .i64 ((rd_T60 l0 x13_1).f2.f0)) ∧ w'.cell? ⟨(ad197.add ((x13_1).toNat * 14)).block, (ad197.add ((x13_1).toNat * 14)).off + 3, none⟩ = some (.string ((rd_T60 l0 x13_1).f2.f1)) ∧ w'.cell? ⟨(ad197.add ((x13_1).toNat * 14)).block, (ad197.add ((x13_1).toNat * 14)).off + 4, none⟩ = some (.string ((rd_T60 l0 x13_1).f2.f2)) ∧ w'.cell? ⟨(ad197.add ((x13_1).toNat * 14)).block, (ad197.add ((x13_1).toNat * 14)).off + 5, none⟩ = some (.string ((rd_T60 l0 x13_1).f2.f3)) ∧ w'.cell? ⟨(ad197.add ((x13_1).toNat * 14)).block, (ad197.add ((x13_1).toNat * 14)).off + 6, none⟩ = some (.string ((rd_T60 l0 x13_1).f2.f4)) ∧ w'.cell? ⟨(ad197.add ((x13_1).toNat * 14)).block, (ad197.add ((x13_1).toNat * 14)).off + 7, none⟩ = some (.string ((rd_T60 l0 x13_1).f2.f5)) ∧ w'.cell? ⟨(ad197.add ((x13_1).toNat * 14)).block, (ad197.add ((x13_1).toNat * 14)).off + 8, none⟩ = some (.string ((rd_T60 l0 x13_1).f2.f6)) ∧ w'.cell? ⟨(ad197.add ((x13_1).toNat * 14)).block, (ad197.add ((x13_1).toNat * 14)).off + 9, none⟩ = some (.slice A197_9 ((rd_T60 l0 x13_1).f2.f7).length c197_9) ∧ w'.cell? ⟨(ad197.add ((x13_1).toNat * 14)).block, (ad197.add ((x13_1).toNat * 14)).off + 10, none⟩ = some (.int .i64 ((rd_T60 l0 x13_1).f2.f8)) ∧ w'.cell? ⟨(ad197.add ((x13_1).toNat * 14)).block, (ad197.add ((x13_1).toNat * 14)).off + 11, none⟩ = some (.int .i64 ((rd_T60 l0 x13_1).f2.f9)) ∧ w'.cell? ⟨(ad197.add ((x13_1).toNat * 14)).block, (ad197.add ((x13_1).toNat * 14)).off + 12, none⟩ = some (.int .i64 ((rd_T60 l0 x13_1).f2.f10)) ∧ w'.cell? ⟨(ad197.add ((x13_1).toNat * 14)).block, (ad197.add ((x13_1).toNat * 14)).off + 13, none⟩ = some (.slice A197_13 ((rd_T60 l0 x13_1).f3).length c197_13) ∧ w'.cell? (ad198.add ((x13_1).toNat * 14)) = some (.int .i64 ((rd_T60 l1 x13_1).f0)) ∧ w'.cell? ⟨(ad198.add ((x13_1).toNat * 14)).block, (ad198.add ((x13_1).toNat * 14)).off + 1, none⟩ = some (.int .i64 ((rd_T60 l1 x13_1).f1)) ∧ w'.cell? ⟨(ad198.add ((x13_1).toNat * 14)).block, (ad198.add ((x13_1).toNat * 14)).off + 2, none⟩ = some (.int .i64 ((rd_T60 l1 x13_1).f2.f0)) ∧ w'.cell? ⟨(ad198.add ((x13_1).toNat * 14)).block, (ad198.add ((x13_1).toNat * 14)).off + 3, none⟩ = some (.string ((rd_T60 l1 x13_1).f2.f1)) ∧ w'.cell? ⟨(ad198.add ((x13_1).toNat * 14)).block, (ad198.add ((x13_1).toNat * 14)).off + 4, none⟩ = some (.string ((rd_T60 l1 x13_1).f2.f2)) ∧ w'.cell? ⟨(ad198.add ((x13_1).toNat * 14)).block, (ad198.add ((x13_1).toNat * 14)).off + 5, none⟩ = some (.string ((rd_T60 l1 x13_1).f2.f3)) ∧ w'.cell? ⟨(ad198.add ((x13_1).toNat * 14)).block, (ad198.add ((x13_1).toNat * 14)).off + 6, none⟩ = some (.string ((rd_T60 l1 x13_1).f2.f4)) ∧ w'.cell? ⟨(ad198.add ((x13_1).toNat * 14)).block, (ad198.add ((x13_1).toNat * 14)).off + 7, none⟩ = some (.string ((rd_T60 l1 x13_1).f2.f5)) ∧ w'.cell? ⟨(ad198.add ((x13_1).toNat * 14)).block, (ad198.add ((x13_1).toNat * 14)).off + 8, none⟩ = some (.string ((rd_T60 l1 x13_1).f2.f6)) ∧ w'.cell? ⟨(ad198.add ((x13_1).toNat * 14)).block, (ad198.add ((x13_1).toNat * 14)).off + 9, none⟩ = some (.slice A198_9 ((rd_T60 l1 x13_1).f2.f7).length c198_9) ∧ w'.cell? ⟨(ad198.add ((x13_1).toNat * 14)).block, (ad198.add ((x13_1).toNat * 14)).off + 10, none⟩ = some (.int .i64 ((rd_T60 l1 x13_1).f2.f8)) ∧ w'.cell? ⟨(ad198.add ((x13_1).toNat * 14)).block, (ad198.add ((x13_1).toNat * 14)).off + 11, none⟩ = some (.int .i64 ((rd_T60 l1 x13_1).f2.f9)) ∧ w'.cell? ⟨(ad198.add ((x13_1).toNat * 14)).block, (ad198.add ((x13_1).toNat * 14)).off + 12, none⟩ = some (.int .i64 ((rd_T60 l1 x13_1).f2.f10)) ∧ w'.cell? ⟨(ad198.add ((x13_1).toNat * 14)).block, (ad198.add ((x13_1).toNat * 14)).off + 13, none⟩ = some (.slice A198_13 ((rd_T60 l1 x13_1).f3).length c198_13)) (ds := []) #[false, false, false, false, false, false, false, false, false, false] (by kernel_rfl) rfl rfl ⟨((HB.out.cell (World.block_lt_of_cell? w _ hw197_0)).trans hw197_0), ((HB.out.cell (World.block_lt_of_cell? w _ hw197_1)).trans hw197_1), ((HB.out.cell (World.block_lt_of_cell? w _ hw197_2)).trans hw197_2), ((HB.out.cell (World.block_lt_of_cell? w _ hw197_3)).trans hw197_3), ((HB.out.cell (World.block_lt_of_cell? w _ hw197_4)).trans hw197_4), ((HB.out.cell (World.block_lt_of_cell? w _ hw197_5)).trans hw197_5), ((HB.out.cell (World.block_lt_of_cell? w _ hw197_6)).trans hw197_6), ((HB.out.cell (World.block_lt_of_cell? w _ hw197_7)).trans hw197_7), ((HB.out.cell (World.block_lt_of_cell? w _ hw197_8)).trans hw197_8), ((HB.out.cell (World.block_lt_of_cell? w _ hw197_9)).trans hw197_9), ((HB.out.cell (World.block_lt_of_cell? w _ hw197_10)).trans hw197_10), ((HB.out.cell (World.block_lt_of_cell? w _ hw197_11)).trans hw197_11), ((HB.out.cell (World.block_lt_of_cell? w _ hw197_12)).trans hw197_12), ((HB.out.cell (World.block_lt_of_cell? w _ hw197_13)).trans hw197_13), ((HB.out.cell (World.block_lt_of_cell? w _ hw198_0)).trans hw198_0), ((HB.out.cell (World.block_lt_of_cell? w _ hw198_1)).trans hw198_1), ((HB.out.cell (World.block_lt_of_cell? w _ hw198_2)).trans hw198_2), ((HB.out.cell (World.block_lt_of_cell? w _ hw198_3)).trans hw198_3), ((HB.out.cell (World.block_lt_of_cell? w _ hw198_4)).trans hw198_4), ((HB.out.cell (World.block_lt_of_cell? w _ hw198_5)).trans hw198_5), ((HB.out.cell (World.block_lt_of_cell? w _ hw198_6)).trans hw198_6), ((HB.out.cell (World.block_lt_of_cell? w _ hw198_7)).trans hw198_7), ((HB.out.cell (World.block_lt_of_cell? w _ hw198_8)).trans hw198_8), ((HB.out.cell (World.block_lt_of_cell? w _ hw198_9)).trans hw198_9), ((HB.out.cell (World.block_lt_of_cell? w _ hw198_10)).trans hw198_10), ((HB.out.cell (World.block_lt_of_cell? w _ hw198_11)).trans hw198_11), ((HB.out.cell (World.block_lt_of_cell? w _ hw198_12)).trans hw198_12), ((HB.out.cell (World.block_lt_of_cell? w _ hw198_13)).trans hw198_13)⟩ (fun hHeld => ?_); refine with_tabW calepinref20_Same.tab6 calepinref20_Same.bits6 (fun HT_ HW_ => ?_)
                  generalize wr.drew = w10 at HB HR197_13 HR197_9 HR198_13 HR198_9 hx197_0 hx197_1 hx197_10 hx197_11 hx197_12 hx197_13 hx197_2 hx197_3 hx197_4 hx197_5 hx197_6 hx197_7 hx197_8 hx197_9 hx198_0 hx198_1 hx198_10 hx198_11 hx198_12 hx198_13 hx198_2 hx198_3 hx198_4 hx198_5 hx198_6 hx198_7 hx198_8 hx198_9 hHeld ⊢
                  refine pure_ (i := 0) (N := some 16) (v := ?_) (a' := ?_) #[true, false, false, false, false, false, false, false, false, false] rfl rfl (any_of HT_.out (by kernel_rfl)) (fun _ _ _ h => h) (Or.inl ⟨by rfl, ?_⟩) ?_ ?_
                  rotate_left
                  · intro w'
                    go_simp
                    with_reducible rfl
                  rotate_left
                  · simp only [Act.put, List.setIfInBounds_toArray, List.set_cons_zero, List.set_cons_succ, i64_w, i32_w]
                    rfl
                  refine pure_ (i := 1) (N := some 17) (v := ?_) (a' := ?_) #[true, true, false, false, false, false, false, false, false, false] rfl rfl (any_of HT_.out (by kernel_rfl)) (fun _ _ _ h => h) (Or.inl ⟨by rfl, ?_⟩) ?_ ?_
                  rotate_left
                  · intro w'
                    go_simp
                    with_reducible rfl
                  rotate_left
                  · simp only [Act.put, List.setIfInBounds_toArray, List.set_cons_zero, List.set_cons_succ, i64_w, i32_w]
                    rfl
                  refine pure_ (i := 2) (N := some 18) (v := ?_) (a' := ?_) #[true, true, true, false, false, false, false, false, false, false] rfl rfl (any_of HT_.out (by kernel_rfl)) (fun _ _ _ h => h) (Or.inl ⟨by rfl, ?_⟩) ?_ ?_
                  rotate_left
                  · intro w'
                    go_simp
                    with_reducible rfl
                  rotate_left
                  · simp only [Act.put, List.setIfInBounds_toArray, List.set_cons_zero, List.set_cons_succ, i64_w, i32_w]
                    rfl
                  refine pure_ (i := 4) (N := some 20) (v := ?_) (a' := ?_) #[true, true, true, false, true, false, false, false, false, false] rfl rfl (any_of HT_.out (by kernel_rfl)) (fun _ _ _ h => h) (Or.inl ⟨by rfl, ?_⟩) ?_ ?_
                  rotate_left
                  · intro w'
                    go_simp
                    with_reducible rfl
                  rotate_left
                  · simp only [Act.put, List.setIfInBounds_toArray, List.set_cons_zero, List.set_cons_succ, i64_w, i32_w]
                    rfl
                  refine pure_ (i := 5) (N := some 21) (v := ?_) (a' := ?_) #[true, true, true, false, true, true, false, false, false, false] rfl rfl (any_of HT_.out (by kernel_rfl)) (fun _ _ _ h => h) (Or.inl ⟨by rfl, ?_⟩) ?_ ?_
                  rotate_left
                  · intro w'
                    go_simp
                    with_reducible rfl
                  rotate_left
                  · simp only [Act.put, List.setIfInBounds_toArray, List.set_cons_zero, List.set_cons_succ, i64_w, i32_w]
                    rfl
                  refine pure_ (i := 6) (N := some 22) (v := ?_) (a' := ?_) #[true, true, true, false, true, true, true, false, false, false] rfl rfl (any_of HT_.out (by kernel_rfl)) (fun _ _ _ h => h) (Or.inl ⟨by rfl, ?_⟩) ?_ ?_
                  rotate_left
                  · intro w'
                    go_simp
                    with_reducible rfl
                  rotate_left
                  · simp only [Act.put, List.setIfInBounds_toArray, List.set_cons_zero, List.set_cons_succ, i64_w, i32_w]
                    rfl
                  refine take_ (i := 3) (N := some 19) (v := ?_) (a' := ?_) #[true, true, true, true, true, true, true, false, false, false] rfl rfl (take_ofW HT_.out HW_.out (by kernel_rfl)) (fun _ _ _ h => h) (Or.inl ⟨by rfl, ?_⟩) hHeld ?_ ?_
                  rotate_left
                  · rintro w' ⟨s0, s1, s2, s3, s4, s5, s6, s7, s8, s9, s10, s11, s12, s13, s14, s15, s16, s17, s18, s19, s20, s21, s22, s23, s24, s25, s26, s27⟩
                    go_simp
                    with_reducible rfl
                  rotate_left
                  · simp only [Act.put, List.setIfInBounds_toArray, List.set_cons_zero, List.set_cons_succ, i64_w, i32_w]
                    rfl
                  refine take_ (i := 7) (N := some 23) (v := ?_) (a' := ?_) #[true, true, true, true, true, true, true, true, false, false] rfl rfl (take_ofW HT_.out HW_.out (by kernel_rfl)) (fun _ _ _ h => h) (Or.inl ⟨by rfl, ?_⟩) hHeld ?_ ?_
                  rotate_left
                  · rintro w' ⟨s0, s1, s2, s3, s4, s5, s6, s7, s8, s9, s10, s11, s12, s13, s14, s15, s16, s17, s18, s19, s20, s21, s22, s23, s24, s25, s26, s27⟩
                    go_simp
                    with_reducible rfl
                  rotate_left
                  · simp only [Act.put, List.setIfInBounds_toArray, List.set_cons_zero, List.set_cons_succ, i64_w, i32_w]
                    rfl
                  refine one_ (i := 8) (N := some 24) #[true, true, true, true, true, true, true, true, true, false] rfl rfl (one_of HT_.out (by kernel_rfl)) (by decide) (fun K hK => ?_)
                  refine goes_ Try.func30 (by kernel_rfl) rfl #[.agg #[.int .i64 ((rd_T60 l0 x13_1).f0), .int .i64 ((rd_T60 l0 x13_1).f1), .int .i64 ((rd_T60 l0 x13_1).f2.f0), .string ((rd_T60 l0 x13_1).f2.f1), .string ((rd_T60 l0 x13_1).f2.f2), .string ((rd_T60 l0 x13_1).f2.f3), .string ((rd_T60 l0 x13_1).f2.f4), .string ((rd_T60 l0 x13_1).f2.f5), .string ((rd_T60 l0 x13_1).f2.f6), .slice A197_9 ((rd_T60 l0 x13_1).f2.f7).length c197_9, .int .i64 ((rd_T60 l0 x13_1).f2.f8), .int .i64 ((rd_T60 l0 x13_1).f2.f9), .int .i64 ((rd_T60 l0 x13_1).f2.f10), .slice A197_13 ((rd_T60 l0 x13_1).f3).length c197_13], .agg #[.int .i64 ((rd_T60 l1 x13_1).f0), .int .i64 ((rd_T60 l1 x13_1).f1), .int .i64 ((rd_T60 l1 x13_1).f2.f0), .string ((rd_T60 l1 x13_1).f2.f1), .string ((rd_T60 l1 x13_1).f2.f2), .string ((rd_T60 l1 x13_1).f2.f3), .string ((rd_T60 l1 x13_1).f2.f4), .string ((rd_T60 l1 x13_1).f2.f5), .string ((rd_T60 l1 x13_1).f2.f6), .slice A198_9 ((rd_T60 l1 x13_1).f2.f7).length c198_9, .int .i64 ((rd_T60 l1 x13_1).f2.f8), .int .i64 ((rd_T60 l1 x13_1).f2.f9), .int .i64 ((rd_T60 l1 x13_1).f2.f10), .slice A198_13 ((rd_T60 l1 x13_1).f3).length c198_13]] (by rfl) rfl rfl (by (try simp only [List.map_toArray, List.map_cons, List.map_nil]); first | done | rfl | (simp only [List.length_drop, List.length_take]; rfl)) ?_
                  with_reducible refine (calepinref20_One.calls k1 ((rd_T60 l0 x13_1).f0) ((rd_T60 l0 x13_1).f1) ((rd_T60 l0 x13_1).f2.f0) ((rd_T60 l0 x13_1).f2.f1) ((rd_T60 l0 x13_1).f2.f2) ((rd_T60 l0 x13_1).f2.f3) ((rd_T60 l0 x13_1).f2.f4) ((rd_T60 l0 x13_1).f2.f5) ((rd_T60 l0 x13_1).f2.f6) _ _ ((rd_T60 l0 x13_1).f2.f7) ((rd_T60 l0 x13_1).f2.f8) ((rd_T60 l0 x13_1).f2.f9) ((rd_T60 l0 x13_1).f2.f10) _ _ ((rd_T60 l0 x13_1).f3) ((rd_T60 l1 x13_1).f0) ((rd_T60 l1 x13_1).f1) ((rd_T60 l1 x13_1).f2.f0) ((rd_T60 l1 x13_1).f2.f1) ((rd_T60 l1 x13_1).f2.f2) ((rd_T60 l1 x13_1).f2.f3) ((rd_T60 l1 x13_1).f2.f4) ((rd_T60 l1 x13_1).f2.f5) ((rd_T60 l1 x13_1).f2.f6) _ _ ((rd_T60 l1 x13_1).f2.f7) ((rd_T60 l1 x13_1).f2.f8) ((rd_T60 l1 x13_1).f2.f9) ((rd_T60 l1 x13_1).f2.f10) _ _ ((rd_T60 l1 x13_1).f3) true _ ?side1 ?side2 ?side3 ?side4 ?side5 ?side6 ?side7 ?side8 A8.out).mono ?_
                  (case side1 => repeat (first | exact (Kd.C_below HR197_9.out HB.out) | (with_reducible refine Kd.C_alloc ?_ _) | (with_reducible refine Kd.C_drewN ?_ _) | (with_reducible refine Kd.C_drew ?_)))
                  (case side2 => exact HC197_9.out)
                  (case side3 => repeat (first | exact (Kd.C_below HR197_13.out HB.out) | (with_reducible refine Kd.C_alloc ?_ _) | (with_reducible refine Kd.C_drewN ?_ _) | (with_reducible refine Kd.C_drew ?_)))
                  (case side4 => exact HC197_13.out)
                  (case side5 => repeat (first | exact (Kd.C_below HR198_9.out HB.out) | (with_reducible refine Kd.C_alloc ?_ _) | (with_reducible refine Kd.C_drewN ?_ _) | (with_reducible refine Kd.C_drew ?_)))
                  (case side6 => exact HC198_9.out)
                  (case side7 => repeat (first | exact (Kd.C_below HR198_13.out HB.out) | (with_reducible refine Kd.C_alloc ?_ _) | (with_reducible refine Kd.C_drewN ?_ _) | (with_reducible refine Kd.C_drew ?_)))
                  (case side8 => exact HC198_13.out)
                  rintro e w11 ⟨rfl, hb⟩
                  refine ⟨_, rfl, ?_⟩
                  have n0_ := Aside0.mk (below_step (by repeat (first | (with_reducible first | exact HB.out | apply below_alloc | apply pw_below_drewN | apply below_drew1) | exact HB.out)) hb)
                  clear HB
                  have HB := n0_
                  clear n0_
                  (try clear hb)
                  (try clear hb2)
                  (try clear hk)
                  (try clear hi)
                  refine hK.out _ _ ⟨((HB.out.cell (World.block_lt_of_cell? w _ hw197_0)).trans hw197_0), ((HB.out.cell (World.block_lt_of_cell? w _ hw197_1)).trans hw197_1), ((HB.out.cell (World.block_lt_of_cell? w _ hw197_2)).trans hw197_2), ((HB.out.cell (World.block_lt_of_cell? w _ hw197_3)).trans hw197_3), ((HB.out.cell (World.block_lt_of_cell? w _ hw197_4)).trans hw197_4), ((HB.out.cell (World.block_lt_of_cell? w _ hw197_5)).trans hw197_5), ((HB.out.cell (World.block_lt_of_cell? w _ hw197_6)).trans hw197_6), ((HB.out.cell (World.block_lt_of_cell? w _ hw197_7)).trans hw197_7), ((HB.out.cell (World.block_lt_of_cell? w _ hw197_8)).trans hw197_8), ((HB.out.cell (World.block_lt_of_cell? w _ hw197_9)).trans hw197_9), ((HB.out.cell (World.block_lt_of_cell? w _ hw197_10)).trans hw197_10), ((HB.out.cell (World.block_lt_of_cell? w _ hw197_11)).trans hw197_11), ((HB.out.cell (World.block_lt_of_cell? w _ hw197_12)).trans hw197_12), ((HB.out.cell (World.block_lt_of_cell? w _ hw197_13)).trans hw197_13), ((HB.out.cell (World.block_lt_of_cell? w _ hw198_0)).trans hw198_0), ((HB.out.cell (World.block_lt_of_cell? w _ hw198_1)).trans hw198_1), ((HB.out.cell (World.block_lt_of_cell? w _ hw198_2)).trans hw198_2), ((HB.out.cell (World.block_lt_of_cell? w _ hw198_3)).trans hw198_3), ((HB.out.cell (World.block_lt_of_cell? w _ hw198_4)).trans hw198_4), ((HB.out.cell (World.block_lt_of_cell? w _ hw198_5)).trans hw198_5), ((HB.out.cell (World.block_lt_of_cell? w _ hw198_6)).trans hw198_6), ((HB.out.cell (World.block_lt_of_cell? w _ hw198_7)).trans hw198_7), ((HB.out.cell (World.block_lt_of_cell? w _ hw198_8)).trans hw198_8), ((HB.out.cell (World.block_lt_of_cell? w _ hw198_9)).trans hw198_9), ((HB.out.cell (World.block_lt_of_cell? w _ hw198_10)).trans hw198_10), ((HB.out.cell (World.block_lt_of_cell? w _ hw198_11)).trans hw198_11), ((HB.out.cell (World.block_lt_of_cell? w _ hw198_12)).trans hw198_12), ((HB.out.cell (World.block_lt_of_cell? w _ hw198_13)).trans hw198_13)⟩ (fun hHeld => ?_)
                  clear hK K
                  refine norm_ (a' := ?_) ?_ ?_
                  rotate_left
                  · show Act.put _ (some 24) _ = _
                    simp only [Act.put, List.setIfInBounds_toArray, List.set_cons_zero, List.set_cons_succ, i64_w, i32_w]
                    rfl
                  refine pure_ (i := 9) (N := some 25) (v := ?_) (a' := ?_) #[true, true, true, true, true, true, true, true, true, true] rfl rfl (any_of HT_.out (by kernel_rfl)) (fun _ _ _ h => h) (Or.inl ⟨by rfl, ?_⟩) ?_ ?_
                  rotate_left
                  · intro w'
                    go_simp
                    with_reducible rfl
                  rotate_left
                  · simp only [Act.put, List.setIfInBounds_toArray, List.set_cons_zero, List.set_cons_succ, i64_w, i32_w]
                    rfl
                  refine done_ (done_of HT_.out (by kernel_rfl)) ?_
                  try go_wp2
                  go_roundg k1
                  case measure => have := HK1.out; omega
                  case rel => exact ⟨(wrap64 (x13_1 + 1)), (by first | rfl | (simp; done) | (simp [*]; done)), H', ⟨by have := HK1.out; omega⟩, ⟨by repeat (first | (with_reducible first | exact HB.out | apply below_alloc | apply pw_below_drewN | apply below_drew1) | exact HB.out)⟩⟩
                · replace c9 := Bool.eq_false_iff.mpr c9
                  subst c9
                  have H1 : (some false) = some r := by rw [if_neg (show ¬ (false = true) by decide)] at H; exact H
                  clear H
                  have H := H1
                  clear H1
                  obtain rfl := Option.some.inj H
                  try go_wp2
                  have n0_ := Aside0.mk (below_drew1 HB.out)
                  clear HB
                  have HB := n0_
                  clear n0_
                  have p197 : 0 ≤ (x13_1 : Int) := of_decide_eq_true (by first | (with_reducible assumption) | assumption)
                  have q197 : x13_1 < (l0.length : Int) := of_decide_eq_true (by first | (with_reducible assumption) | assumption)
                  obtain ⟨ad197, A197_9, c197_9, A197_13, c197_13, e197, hx197_0, hx197_1, hx197_2, hx197_3, hx197_4, hx197_5, hx197_6, hx197_7, hx197_8, hx197_9, hx197_10, hx197_11, hx197_12, hx197_13, hl197_9, hi197_9, hl197_13, hi197_13⟩ := at_T60 HR0.out x13_1 p197 q197
                  have hw197_13 := hx197_13
                  have hw197_12 := hx197_12
                  have hw197_11 := hx197_11
                  have hw197_10 := hx197_10
                  have hw197_9 := hx197_9
                  have hw197_8 := hx197_8
                  have hw197_7 := hx197_7
                  have hw197_6 := hx197_6
                  have hw197_5 := hx197_5
                  have hw197_4 := hx197_4
                  have hw197_3 := hx197_3
                  have hw197_2 := hx197_2
                  have hw197_1 := hx197_1
                  have hw197_0 := hx197_0
                  cases e197
                  replace hx197_0 := (HB.out.cell (World.block_lt_of_cell? w _ hx197_0)).trans hx197_0
                  replace hx197_1 := (HB.out.cell (World.block_lt_of_cell? w _ hx197_1)).trans hx197_1
                  replace hx197_2 := (HB.out.cell (World.block_lt_of_cell? w _ hx197_2)).trans hx197_2
                  replace hx197_3 := (HB.out.cell (World.block_lt_of_cell? w _ hx197_3)).trans hx197_3
                  replace hx197_4 := (HB.out.cell (World.block_lt_of_cell? w _ hx197_4)).trans hx197_4
                  replace hx197_5 := (HB.out.cell (World.block_lt_of_cell? w _ hx197_5)).trans hx197_5
                  replace hx197_6 := (HB.out.cell (World.block_lt_of_cell? w _ hx197_6)).trans hx197_6
                  replace hx197_7 := (HB.out.cell (World.block_lt_of_cell? w _ hx197_7)).trans hx197_7
                  replace hx197_8 := (HB.out.cell (World.block_lt_of_cell? w _ hx197_8)).trans hx197_8
                  replace hx197_9 := (HB.out.cell (World.block_lt_of_cell? w _ hx197_9)).trans hx197_9
                  replace hx197_10 := (HB.out.cell (World.block_lt_of_cell? w _ hx197_10)).trans hx197_10
                  replace hx197_11 := (HB.out.cell (World.block_lt_of_cell? w _ hx197_11)).trans hx197_11
                  replace hx197_12 := (HB.out.cell (World.block_lt_of_cell? w _ hx197_12)).trans hx197_12
                  replace hx197_13 := (HB.out.cell (World.block_lt_of_cell? w _ hx197_13)).trans hx197_13
                  have HR197_9 := Aside0.mk hi197_9
                  have HC197_9 := Aside0.mk hl197_9
                  clear hi197_9 hl197_9
                  have HR197_13 := Aside0.mk hi197_13
                  have HC197_13 := Aside0.mk hl197_13
                  clear hi197_13 hl197_13
                  replace p197 := eq_true p197
                  replace q197 := eq_true q197
                  have p198 : 0 ≤ (x13_1 : Int) := of_decide_eq_true (by first | (with_reducible assumption) | assumption)
                  have q198 : x13_1 < (l1.length : Int) := of_decide_eq_true (by first | (with_reducible assumption) | assumption)
                  obtain ⟨ad198, A198_9, c198_9, A198_13, c198_13, e198, hx198_0, hx198_1, hx198_2, hx198_3, hx198_4, hx198_5, hx198_6, hx198_7, hx198_8, hx198_9, hx198_10, hx198_11, hx198_12, hx198_13, hl198_9, hi198_9, hl198_13, hi198_13⟩ := at_T60 HR1.out x13_1 p198 q198
                  have hw198_13 := hx198_13
                  have hw198_12 := hx198_12
                  have hw198_11 := hx198_11
                  have hw198_10 := hx198_10
                  have hw198_9 := hx198_9
                  have hw198_8 := hx198_8
                  have hw198_7 := hx198_7
                  have hw198_6 := hx198_6
                  have hw198_5 := hx198_5
                  have hw198_4 := hx198_4
                  have hw198_3 := hx198_3
                  have hw198_2 := hx198_2
                  have hw198_1 := hx198_1
                  have hw198_0 := hx198_0
                  cases e198
                  replace hx198_0 := (HB.out.cell (World.block_lt_of_cell? w _ hx198_0)).trans hx198_0
                  replace hx198_1 := (HB.out.cell (World.block_lt_of_cell? w _ hx198_1)).trans hx198_1
                  replace hx198_2 := (HB.out.cell (World.block_lt_of_cell? w _ hx198_2)).trans hx198_2
                  replace hx198_3 := (HB.out.cell (World.block_lt_of_cell? w _ hx198_3)).trans hx198_3
                  replace hx198_4 := (HB.out.cell (World.block_lt_of_cell? w _ hx198_4)).trans hx198_4
                  replace hx198_5 := (HB.out.cell (World.block_lt_of_cell? w _ hx198_5)).trans hx198_5
                  replace hx198_6 := (HB.out.cell (World.block_lt_of_cell? w _ hx198_6)).trans hx198_6
                  replace hx198_7 := (HB.out.cell (World.block_lt_of_cell? w _ hx198_7)).trans hx198_7
                  replace hx198_8 := (HB.out.cell (World.block_lt_of_cell? w _ hx198_8)).trans hx198_8
                  replace hx198_9 := (HB.out.cell (World.block_lt_of_cell? w _ hx198_9)).trans hx198_9
                  replace hx198_10 := (HB.out.cell (World.block_lt_of_cell? w _ hx198_10)).trans hx198_10
                  replace hx198_11 := (HB.out.cell (World.block_lt_of_cell? w _ hx198_11)).trans hx198_11
                  replace hx198_12 := (HB.out.cell (World.block_lt_of_cell? w _ hx198_12)).trans hx198_12
                  replace hx198_13 := (HB.out.cell (World.block_lt_of_cell? w _ hx198_13)).trans hx198_13
                  have HR198_9 := Aside0.mk hi198_9
                  have HC198_9 := Aside0.mk hl198_9
                  clear hi198_9 hl198_9
                  have HR198_13 := Aside0.mk hi198_13
                  have HC198_13 := Aside0.mk hl198_13
                  clear hi198_13 hl198_13
                  replace p198 := eq_true p198
                  replace q198 := eq_true q198
                  refine start_ (n := 10) (S := fun w' => w'.cell? (ad197.add ((x13_1).toNat * 14)) = some (.int .i64 ((rd_T60 l0 x13_1).f0)) ∧ w'.cell? ⟨(ad197.add ((x13_1).toNat * 14)).block, (ad197.add ((x13_1).toNat * 14)).off + 1, none⟩ = some (.int .i64 ((rd_T60 l0 x13_1).f1)) ∧ w'.cell? ⟨(ad197.add ((x13_1).toNat * 14)).block, (ad197.add ((x13_1).toNat * 14)).off + 2, none⟩ = some (.int .i64 ((rd_T60 l0 x13_1).f2.f0)) ∧ w'.cell? ⟨(ad197.add ((x13_1).toNat * 14)).block, (ad197.add ((x13_1).toNat * 14)).off + 3, none⟩ = some (.string ((rd_T60 l0 x13_1).f2.f1)) ∧ w'.cell? ⟨(ad197.add ((x13_1).toNat * 14)).block, (ad197.add ((x13_1).toNat * 14)).off + 4, none⟩ = some (.string ((rd_T60 l0 x13_1).f2.f2)) ∧ w'.cell? ⟨(ad197.add ((x13_1).toNat * 14)).block, (ad197.add ((x13_1).toNat * 14)).off + 5, none⟩ = some (.string ((rd_T60 l0 x13_1).f2.f3)) ∧ w'.cell? ⟨(ad197.add ((x13_1).toNat * 14)).block, (ad197.add ((x13_1).toNat * 14)).off + 6, none⟩ = some (.string ((rd_T60 l0 x13_1).f2.f4)) ∧ w'.cell? ⟨(ad197.add ((x13_1).toNat * 14)).block, (ad197.add ((x13_1).toNat * 14)).off + 7, none⟩ = some (.string ((rd_T60 l0 x13_1).f2.f5)) ∧ w'.cell? ⟨(ad197.add ((x13_1).toNat * 14)).block, (ad197.add ((x13_1).toNat * 14)).off + 8, none⟩ = some (.string ((rd_T60 l0 x13_1).f2.f6)) ∧ w'.cell? ⟨(ad197.add ((x13_1).toNat * 14)).block, (ad197.add ((x13_1).toNat * 14)).off + 9, none⟩ = some (.slice A197_9 ((rd_T60 l0 x13_1).f2.f7).length c197_9) ∧ w'.cell? ⟨(ad197.add ((x13_1).toNat * 14)).block, (ad197.add ((x13_1).toNat * 14)).off + 10, none⟩ = some (.int .i64 ((rd_T60 l0 x13_1).f2.f8)) ∧ w'.cell? ⟨(ad197.add ((x13_1).toNat * 14)).block, (ad197.add ((x13_1).toNat * 14)).off + 11, none⟩ = some (.int .i64 ((rd_T60 l0 x13_1).f2.f9)) ∧ w'.cell? ⟨(ad197.add ((x13_1).toNat * 14)).block, (ad197.add ((x13_1).toNat * 14)).off + 12, none⟩ = some (.int .i64 ((rd_T60 l0 x13_1).f2.f10)) ∧ w'.cell? ⟨(ad197.add ((x13_1).toNat * 14)).block, (ad197.add ((x13_1).toNat * 14)).off + 13, none⟩ = some (.slice A197_13 ((rd_T60 l0 x13_1).f3).length c197_13) ∧ w'.cell? (ad198.add ((x13_1).toNat * 14)) = some (.int .i64 ((rd_T60 l1 x13_1).f0)) ∧ w'.cell? ⟨(ad198.add ((x13_1).toNat * 14)).block, (ad198.add ((x13_1).toNat * 14)).off + 1, none⟩ = some (.int .i64 ((rd_T60 l1 x13_1).f1)) ∧ w'.cell? ⟨(ad198.add ((x13_1).toNat * 14)).block, (ad198.add ((x13_1).toNat * 14)).off + 2, none⟩ = some (.int .i64 ((rd_T60 l1 x13_1).f2.f0)) ∧ w'.cell? ⟨(ad198.add ((x13_1).toNat * 14)).block, (ad198.add ((x13_1).toNat * 14)).off + 3, none⟩ = some (.string ((rd_T60 l1 x13_1).f2.f1)) ∧ w'.cell? ⟨(ad198.add ((x13_1).toNat * 14)).block, (ad198.add ((x13_1).toNat * 14)).off + 4, none⟩ = some (.string ((rd_T60 l1 x13_1).f2.f2)) ∧ w'.cell? ⟨(ad198.add ((x13_1).toNat * 14)).block, (ad198.add ((x13_1).toNat * 14)).off + 5, none⟩ = some (.string ((rd_T60 l1 x13_1).f2.f3)) ∧ w'.cell? ⟨(ad198.add ((x13_1).toNat * 14)).block, (ad198.add ((x13_1).toNat * 14)).off + 6, none⟩ = some (.string ((rd_T60 l1 x13_1).f2.f4)) ∧ w'.cell? ⟨(ad198.add ((x13_1).toNat * 14)).block, (ad198.add ((x13_1).toNat * 14)).off + 7, none⟩ = some (.string ((rd_T60 l1 x13_1).f2.f5)) ∧ w'.cell? ⟨(ad198.add ((x13_1).toNat * 14)).block, (ad198.add ((x13_1).toNat * 14)).off + 8, none⟩ = some (.string ((rd_T60 l1 x13_1).f2.f6)) ∧ w'.cell? ⟨(ad198.add ((x13_1).toNat * 14)).block, (ad198.add ((x13_1).toNat * 14)).off + 9, none⟩ = some (.slice A198_9 ((rd_T60 l1 x13_1).f2.f7).length c198_9) ∧ w'.cell? ⟨(ad198.add ((x13_1).toNat * 14)).block, (ad198.add ((x13_1).toNat * 14)).off + 10, none⟩ = some (.int .i64 ((rd_T60 l1 x13_1).f2.f8)) ∧ w'.cell? ⟨(ad198.add ((x13_1).toNat * 14)).block, (ad198.add ((x13_1).toNat * 14)).off + 11, none⟩ = some (.int .i64 ((rd_T60 l1 x13_1).f2.f9)) ∧ w'.cell? ⟨(ad198.add ((x13_1).toNat * 14)).block, (ad198.add ((x13_1).toNat * 14)).off + 12, none⟩ = some (.int .i64 ((rd_T60 l1 x13_1).f2.f10)) ∧ w'.cell? ⟨(ad198.add ((x13_1).toNat * 14)).block, (ad198.add ((x13_1).toNat * 14)).off + 13, none⟩ = some (.slice A198_13 ((rd_T60 l1 x13_1).f3).length c198_13)) (ds := []) #[false, false, false, false, false, false, false, false, false, false] (by kernel_rfl) rfl rfl ⟨((HB.out.cell (World.block_lt_of_cell? w _ hw197_0)).trans hw197_0), ((HB.out.cell (World.block_lt_of_cell? w _ hw197_1)).trans hw197_1), ((HB.out.cell (World.block_lt_of_cell? w _ hw197_2)).trans hw197_2), ((HB.out.cell (World.block_lt_of_cell? w _ hw197_3)).trans hw197_3), ((HB.out.cell (World.block_lt_of_cell? w _ hw197_4)).trans hw197_4), ((HB.out.cell (World.block_lt_of_cell? w _ hw197_5)).trans hw197_5), ((HB.out.cell (World.block_lt_of_cell? w _ hw197_6)).trans hw197_6), ((HB.out.cell (World.block_lt_of_cell? w _ hw197_7)).trans hw197_7), ((HB.out.cell (World.block_lt_of_cell? w _ hw197_8)).trans hw197_8), ((HB.out.cell (World.block_lt_of_cell? w _ hw197_9)).trans hw197_9), ((HB.out.cell (World.block_lt_of_cell? w _ hw197_10)).trans hw197_10), ((HB.out.cell (World.block_lt_of_cell? w _ hw197_11)).trans hw197_11), ((HB.out.cell (World.block_lt_of_cell? w _ hw197_12)).trans hw197_12), ((HB.out.cell (World.block_lt_of_cell? w _ hw197_13)).trans hw197_13), ((HB.out.cell (World.block_lt_of_cell? w _ hw198_0)).trans hw198_0), ((HB.out.cell (World.block_lt_of_cell? w _ hw198_1)).trans hw198_1), ((HB.out.cell (World.block_lt_of_cell? w _ hw198_2)).trans hw198_2), ((HB.out.cell (World.block_lt_of_cell? w _ hw198_3)).trans hw198_3), ((HB.out.cell (World.block_lt_of_cell? w _ hw198_4)).trans hw198_4), ((HB.out.cell (World.block_lt_of_cell? w _ hw198_5)).trans hw198_5), ((HB.out.cell (World.block_lt_of_cell? w _ hw198_6)).trans hw198_6), ((HB.out.cell (World.block_lt_of_cell? w _ hw198_7)).trans hw198_7), ((HB.out.cell (World.block_lt_of_cell? w _ hw198_8)).trans hw198_8), ((HB.out.cell (World.block_lt_of_cell? w _ hw198_9)).trans hw198_9), ((HB.out.cell (World.block_lt_of_cell? w _ hw198_10)).trans hw198_10), ((HB.out.cell (World.block_lt_of_cell? w _ hw198_11)).trans hw198_11), ((HB.out.cell (World.block_lt_of_cell? w _ hw198_12)).trans hw198_12), ((HB.out.cell (World.block_lt_of_cell? w _ hw198_13)).trans hw198_13)⟩ (fun hHeld => ?_); refine with_tabW calepinref20_Same.tab6 calepinref20_Same.bits6 (fun HT_ HW_ => ?_)
                  generalize wr.drew = w12 at HB HR197_13 HR197_9 HR198_13 HR198_9 hx197_0 hx197_1 hx197_10 hx197_11 hx197_12 hx197_13 hx197_2 hx197_3 hx197_4 hx197_5 hx197_6 hx197_7 hx197_8 hx197_9 hx198_0 hx198_1 hx198_10 hx198_11 hx198_12 hx198_13 hx198_2 hx198_3 hx198_4 hx198_5 hx198_6 hx198_7 hx198_8 hx198_9 hHeld ⊢
                  refine pure_ (i := 0) (N := some 16) (v := ?_) (a' := ?_) #[true, false, false, false, false, false, false, false, false, false] rfl rfl (any_of HT_.out (by kernel_rfl)) (fun _ _ _ h => h) (Or.inl ⟨by rfl, ?_⟩) ?_ ?_
                  rotate_left
                  · intro w'
                    go_simp
                    with_reducible rfl
                  rotate_left
                  · simp only [Act.put, List.setIfInBounds_toArray, List.set_cons_zero, List.set_cons_succ, i64_w, i32_w]
                    rfl
                  refine pure_ (i := 1) (N := some 17) (v := ?_) (a' := ?_) #[true, true, false, false, false, false, false, false, false, false] rfl rfl (any_of HT_.out (by kernel_rfl)) (fun _ _ _ h => h) (Or.inl ⟨by rfl, ?_⟩) ?_ ?_
                  rotate_left
                  · intro w'
                    go_simp
                    with_reducible rfl
                  rotate_left
                  · simp only [Act.put, List.setIfInBounds_toArray, List.set_cons_zero, List.set_cons_succ, i64_w, i32_w]
                    rfl
                  refine pure_ (i := 2) (N := some 18) (v := ?_) (a' := ?_) #[true, true, true, false, false, false, false, false, false, false] rfl rfl (any_of HT_.out (by kernel_rfl)) (fun _ _ _ h => h) (Or.inl ⟨by rfl, ?_⟩) ?_ ?_
                  rotate_left
                  · intro w'
                    go_simp
                    with_reducible rfl
                  rotate_left
                  · simp only [Act.put, List.setIfInBounds_toArray, List.set_cons_zero, List.set_cons_succ, i64_w, i32_w]
                    rfl
                  refine pure_ (i := 4) (N := some 20) (v := ?_) (a' := ?_) #[true, true, true, false, true, false, false, false, false, false] rfl rfl (any_of HT_.out (by kernel_rfl)) (fun _ _ _ h => h) (Or.inl ⟨by rfl, ?_⟩) ?_ ?_
                  rotate_left
                  · intro w'
                    go_simp
                    with_reducible rfl
                  rotate_left
                  · simp only [Act.put, List.setIfInBounds_toArray, List.set_cons_zero, List.set_cons_succ, i64_w, i32_w]
                    rfl
                  refine pure_ (i := 5) (N := some 21) (v := ?_) (a' := ?_) #[true, true, true, false, true, true, false, false, false, false] rfl rfl (any_of HT_.out (by kernel_rfl)) (fun _ _ _ h => h) (Or.inl ⟨by rfl, ?_⟩) ?_ ?_
                  rotate_left
                  · intro w'
                    go_simp
                    with_reducible rfl
                  rotate_left
                  · simp only [Act.put, List.setIfInBounds_toArray, List.set_cons_zero, List.set_cons_succ, i64_w, i32_w]
                    rfl
                  refine pure_ (i := 6) (N := some 22) (v := ?_) (a' := ?_) #[true, true, true, false, true, true, true, false, false, false] rfl rfl (any_of HT_.out (by kernel_rfl)) (fun _ _ _ h => h) (Or.inl ⟨by rfl, ?_⟩) ?_ ?_
                  rotate_left
                  · intro w'
                    go_simp
                    with_reducible rfl
                  rotate_left
                  · simp only [Act.put, List.setIfInBounds_toArray, List.set_cons_zero, List.set_cons_succ, i64_w, i32_w]
                    rfl
                  refine take_ (i := 3) (N := some 19) (v := ?_) (a' := ?_) #[true, true, true, true, true, true, true, false, false, false] rfl rfl (take_ofW HT_.out HW_.out (by kernel_rfl)) (fun _ _ _ h => h) (Or.inl ⟨by rfl, ?_⟩) hHeld ?_ ?_
                  rotate_left
                  · rintro w' ⟨s0, s1, s2, s3, s4, s5, s6, s7, s8, s9, s10, s11, s12, s13, s14, s15, s16, s17, s18, s19, s20, s21, s22, s23, s24, s25, s26, s27⟩
                    go_simp
                    with_reducible rfl
                  rotate_left
                  · simp only [Act.put, List.setIfInBounds_toArray, List.set_cons_zero, List.set_cons_succ, i64_w, i32_w]
                    rfl
                  refine take_ (i := 7) (N := some 23) (v := ?_) (a' := ?_) #[true, true, true, true, true, true, true, true, false, false] rfl rfl (take_ofW HT_.out HW_.out (by kernel_rfl)) (fun _ _ _ h => h) (Or.inl ⟨by rfl, ?_⟩) hHeld ?_ ?_
                  rotate_left
                  · rintro w' ⟨s0, s1, s2, s3, s4, s5, s6, s7, s8, s9, s10, s11, s12, s13, s14, s15, s16, s17, s18, s19, s20, s21, s22, s23, s24, s25, s26, s27⟩
                    go_simp
                    with_reducible rfl
                  rotate_left
                  · simp only [Act.put, List.setIfInBounds_toArray, List.set_cons_zero, List.set_cons_succ, i64_w, i32_w]
                    rfl
                  refine one_ (i := 8) (N := some 24) #[true, true, true, true, true, true, true, true, true, false] rfl rfl (one_of HT_.out (by kernel_rfl)) (by decide) (fun K hK => ?_)
                  refine goes_ Try.func30 (by kernel_rfl) rfl #[.agg #[.int .i64 ((rd_T60 l0 x13_1).f0), .int .i64 ((rd_T60 l0 x13_1).f1), .int .i64 ((rd_T60 l0 x13_1).f2.f0), .string ((rd_T60 l0 x13_1).f2.f1), .string ((rd_T60 l0 x13_1).f2.f2), .string ((rd_T60 l0 x13_1).f2.f3), .string ((rd_T60 l0 x13_1).f2.f4), .string ((rd_T60 l0 x13_1).f2.f5), .string ((rd_T60 l0 x13_1).f2.f6), .slice A197_9 ((rd_T60 l0 x13_1).f2.f7).length c197_9, .int .i64 ((rd_T60 l0 x13_1).f2.f8), .int .i64 ((rd_T60 l0 x13_1).f2.f9), .int .i64 ((rd_T60 l0 x13_1).f2.f10), .slice A197_13 ((rd_T60 l0 x13_1).f3).length c197_13], .agg #[.int .i64 ((rd_T60 l1 x13_1).f0), .int .i64 ((rd_T60 l1 x13_1).f1), .int .i64 ((rd_T60 l1 x13_1).f2.f0), .string ((rd_T60 l1 x13_1).f2.f1), .string ((rd_T60 l1 x13_1).f2.f2), .string ((rd_T60 l1 x13_1).f2.f3), .string ((rd_T60 l1 x13_1).f2.f4), .string ((rd_T60 l1 x13_1).f2.f5), .string ((rd_T60 l1 x13_1).f2.f6), .slice A198_9 ((rd_T60 l1 x13_1).f2.f7).length c198_9, .int .i64 ((rd_T60 l1 x13_1).f2.f8), .int .i64 ((rd_T60 l1 x13_1).f2.f9), .int .i64 ((rd_T60 l1 x13_1).f2.f10), .slice A198_13 ((rd_T60 l1 x13_1).f3).length c198_13]] (by rfl) rfl rfl (by (try simp only [List.map_toArray, List.map_cons, List.map_nil]); first | done | rfl | (simp only [List.length_drop, List.length_take]; rfl)) ?_
                  with_reducible refine (calepinref20_One.calls k1 ((rd_T60 l0 x13_1).f0) ((rd_T60 l0 x13_1).f1) ((rd_T60 l0 x13_1).f2.f0) ((rd_T60 l0 x13_1).f2.f1) ((rd_T60 l0 x13_1).f2.f2) ((rd_T60 l0 x13_1).f2.f3) ((rd_T60 l0 x13_1).f2.f4) ((rd_T60 l0 x13_1).f2.f5) ((rd_T60 l0 x13_1).f2.f6) _ _ ((rd_T60 l0 x13_1).f2.f7) ((rd_T60 l0 x13_1).f2.f8) ((rd_T60 l0 x13_1).f2.f9) ((rd_T60 l0 x13_1).f2.f10) _ _ ((rd_T60 l0 x13_1).f3) ((rd_T60 l1 x13_1).f0) ((rd_T60 l1 x13_1).f1) ((rd_T60 l1 x13_1).f2.f0) ((rd_T60 l1 x13_1).f2.f1) ((rd_T60 l1 x13_1).f2.f2) ((rd_T60 l1 x13_1).f2.f3) ((rd_T60 l1 x13_1).f2.f4) ((rd_T60 l1 x13_1).f2.f5) ((rd_T60 l1 x13_1).f2.f6) _ _ ((rd_T60 l1 x13_1).f2.f7) ((rd_T60 l1 x13_1).f2.f8) ((rd_T60 l1 x13_1).f2.f9) ((rd_T60 l1 x13_1).f2.f10) _ _ ((rd_T60 l1 x13_1).f3) false _ ?side1 ?side2 ?side3 ?side4 ?side5 ?side6 ?side7 ?side8 A8.out).mono ?_
                  (case side1 => repeat (first | exact (Kd.C_below HR197_9.out HB.out) | (with_reducible refine Kd.C_alloc ?_ _) | (with_reducible refine Kd.C_drewN ?_ _) | (with_reducible refine Kd.C_drew ?_)))
                  (case side2 => exact HC197_9.out)
                  (case side3 => repeat (first | exact (Kd.C_below HR197_13.out HB.out) | (with_reducible refine Kd.C_alloc ?_ _) | (with_reducible refine Kd.C_drewN ?_ _) | (with_reducible refine Kd.C_drew ?_)))
                  (case side4 => exact HC197_13.out)
                  (case side5 => repeat (first | exact (Kd.C_below HR198_9.out HB.out) | (with_reducible refine Kd.C_alloc ?_ _) | (with_reducible refine Kd.C_drewN ?_ _) | (with_reducible refine Kd.C_drew ?_)))
                  (case side6 => exact HC198_9.out)
                  (case side7 => repeat (first | exact (Kd.C_below HR198_13.out HB.out) | (with_reducible refine Kd.C_alloc ?_ _) | (with_reducible refine Kd.C_drewN ?_ _) | (with_reducible refine Kd.C_drew ?_)))
                  (case side8 => exact HC198_13.out)
                  rintro e w13 ⟨rfl, hb⟩
                  refine ⟨_, rfl, ?_⟩
                  have n0_ := Aside0.mk (below_step (by repeat (first | (with_reducible first | exact HB.out | apply below_alloc | apply pw_below_drewN | apply below_drew1) | exact HB.out)) hb)
                  clear HB
                  have HB := n0_
                  clear n0_
                  (try clear hb)
                  (try clear hb2)
                  (try clear hk)
                  (try clear hi)
                  refine hK.out _ _ ⟨((HB.out.cell (World.block_lt_of_cell? w _ hw197_0)).trans hw197_0), ((HB.out.cell (World.block_lt_of_cell? w _ hw197_1)).trans hw197_1), ((HB.out.cell (World.block_lt_of_cell? w _ hw197_2)).trans hw197_2), ((HB.out.cell (World.block_lt_of_cell? w _ hw197_3)).trans hw197_3), ((HB.out.cell (World.block_lt_of_cell? w _ hw197_4)).trans hw197_4), ((HB.out.cell (World.block_lt_of_cell? w _ hw197_5)).trans hw197_5), ((HB.out.cell (World.block_lt_of_cell? w _ hw197_6)).trans hw197_6), ((HB.out.cell (World.block_lt_of_cell? w _ hw197_7)).trans hw197_7), ((HB.out.cell (World.block_lt_of_cell? w _ hw197_8)).trans hw197_8), ((HB.out.cell (World.block_lt_of_cell? w _ hw197_9)).trans hw197_9), ((HB.out.cell (World.block_lt_of_cell? w _ hw197_10)).trans hw197_10), ((HB.out.cell (World.block_lt_of_cell? w _ hw197_11)).trans hw197_11), ((HB.out.cell (World.block_lt_of_cell? w _ hw197_12)).trans hw197_12), ((HB.out.cell (World.block_lt_of_cell? w _ hw197_13)).trans hw197_13), ((HB.out.cell (World.block_lt_of_cell? w _ hw198_0)).trans hw198_0), ((HB.out.cell (World.block_lt_of_cell? w _ hw198_1)).trans hw198_1), ((HB.out.cell (World.block_lt_of_cell? w _ hw198_2)).trans hw198_2), ((HB.out.cell (World.block_lt_of_cell? w _ hw198_3)).trans hw198_3), ((HB.out.cell (World.block_lt_of_cell? w _ hw198_4)).trans hw198_4), ((HB.out.cell (World.block_lt_of_cell? w _ hw198_5)).trans hw198_5), ((HB.out.cell (World.block_lt_of_cell? w _ hw198_6)).trans hw198_6), ((HB.out.cell (World.block_lt_of_cell? w _ hw198_7)).trans hw198_7), ((HB.out.cell (World.block_lt_of_cell? w _ hw198_8)).trans hw198_8), ((HB.out.cell (World.block_lt_of_cell? w _ hw198_9)).trans hw198_9), ((HB.out.cell (World.block_lt_of_cell? w _ hw198_10)).trans hw198_10), ((HB.out.cell (World.block_lt_of_cell? w _ hw198_11)).trans hw198_11), ((HB.out.cell (World.block_lt_of_cell? w _ hw198_12)).trans hw198_12), ((HB.out.cell (World.block_lt_of_cell? w _ hw198_13)).trans hw198_13)⟩ (fun hHeld => ?_)
                  clear hK K
                  refine norm_ (a' := ?_) ?_ ?_
                  rotate_left
                  · show Act.put _ (some 24) _ = _
                    simp only [Act.put, List.setIfInBounds_toArray, List.set_cons_zero, List.set_cons_succ, i64_w, i32_w]
                    rfl
                  refine pure_ (i := 9) (N := some 25) (v := ?_) (a' := ?_) #[true, true, true, true, true, true, true, true, true, true] rfl rfl (any_of HT_.out (by kernel_rfl)) (fun _ _ _ h => h) (Or.inl ⟨by rfl, ?_⟩) ?_ ?_
                  rotate_left
                  · intro w'
                    go_simp
                    with_reducible rfl
                  rotate_left
                  · simp only [Act.put, List.setIfInBounds_toArray, List.set_cons_zero, List.set_cons_succ, i64_w, i32_w]
                    rfl
                  refine done_ (done_of HT_.out (by kernel_rfl)) ?_
                  try go_wp2
                  go_ret
                  exact ⟨by first | rfl | (simp [errW_none, errW_some] <;> rfl) | (simp [*, errW_none, errW_some] <;> rfl), by repeat (first | (with_reducible first | exact HB.out | apply below_alloc | apply pw_below_drewN | apply below_drew1) | exact HB.out)⟩
              · rw [if_neg c7] at H
                exact absurd H (by simp)
            · rw [if_neg c6] at H
              exact absurd H (by simp)
          · rw [if_neg c5] at H
            exact absurd H (by simp)
        · rw [if_neg c4] at H
          have c4b0 : decide (x13_1 < (l0.length : Int)) = false := decide_eq_false c4
          clear c4
          obtain rfl := Option.some.inj H
          go_wp2
          go_ret
          exact ⟨by first | rfl | (simp [errW_none, errW_some] <;> rfl) | (simp [*, errW_none, errW_some] <;> rfl), by repeat (first | (with_reducible first | exact HB.out | apply below_alloc | apply pw_below_drewN | apply below_drew1) | exact HB.out)⟩
  · rw [if_neg c3] at H
    have c3b0 : ((l0.length : Int) == (l1.length : Int)) = false := beq_eq_false_iff_ne.mpr c3
    have c3b1 : ((l0.length : Int) != (l1.length : Int)) = true := bne_iff_ne.mpr c3
    have c3b2 : (l0.length == l1.length) = false := by first | simpa using c3 | (simp at c3 ⊢; omega)
    obtain rfl := Option.some.inj H
    go_enter Try.func19, Try.ntmps19
    go_wp2
    go_ret
    exact ⟨by first | rfl | (simp [errW_none, errW_some] <;> rfl) | (simp [*, errW_none, errW_some] <;> rfl), by repeat (first | (with_reducible first | exact HB.out | apply below_alloc | apply pw_below_drewN | apply below_drew1) | exact HB.out)⟩

end Go.Proofs.Ytigjfnleinhahaa.PLog
