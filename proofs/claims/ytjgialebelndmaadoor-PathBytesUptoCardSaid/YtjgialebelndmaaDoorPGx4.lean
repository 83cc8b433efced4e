-- Written for this claim by a program of this session (wip/tools/myprint.py) out of the translation. Not trusted: Lean checks it.
import Derived.Test.YtjgialebelndmaaDoorPGx0
import Derived.Test.YtjgialebelndmaaDoorPGx1
import Derived.Test.YtjgialebelndmaaDoorPGx3
namespace Go.Proofs.YtjgialebelndmaaDoor.PG
open Go.Proofs.YtjgialebelndmaaDoor.PF (calepinref06_Segment.f calepinref06_Segment.calls)
open Go.RowKit Go.Proofs.YtjgialebelndmaaDoorW.PrintWords Go.Proofs.YtjgialebelndmaaDoorW.PrintLast Go.Proofs.YtjgialebelndmaaDoorW.PrintMore
attribute [local go_sem] max2_int min2_int max_two min_two max_three min_three max_four min_four   -- for this text's walks alone
set_option linter.unusedVariables false
set_option linter.unusedSimpArgs false

/-! ### calepinref06_Of: function 12 -/
mutual
def calepinref06_Of.j0 : Nat → ByteArray → ByteArray → Bool → Option (ByteArray × Bool)
  | 0, _, _, _ => none
  | k + 1, x0, x1, x13 => if x13 = true then (some ((⟨#[47]⟩ : ByteArray), true)) else ((calepinref06_Fits.f k x0).bind fun t116 => (if t116 = true then (if (x1.size : Int) > 0 then ((calepinref06_Fits.f k x1).bind fun t117 => (calepinref06_Of.j1 k x0 x1 (!t117))) else (calepinref06_Of.j1 k x0 x1 false)) else (calepinref06_Of.j1 k x0 x1 true)))
def calepinref06_Of.j1 : Nat → ByteArray → ByteArray → Bool → Option (ByteArray × Bool)
  | 0, _, _, _ => none
  | k + 1, x0, x1, x26 => if x26 = true then (some ((⟨#[]⟩ : ByteArray), false)) else ((calepinref06_Segment.f x0).bind fun t118 => (if 1 + t118.size ≤ 9223372036854775807 then (if ((⟨#[47]⟩ : ByteArray) ++ t118).size + 1 ≤ 9223372036854775807 then ((calepinref06_Segment.f x1).bind fun t119 => (if (((⟨#[47]⟩ : ByteArray) ++ t118) ++ (⟨#[47]⟩ : ByteArray)).size + t119.size ≤ 9223372036854775807 then (some ((((⟨#[47]⟩ : ByteArray) ++ t118) ++ (⟨#[47]⟩ : ByteArray)) ++ t119, true)) else (none))) else (none)) else (none)))
end
def calepinref06_Of.f (k : Nat) (a0 : ByteArray) (a1 : ByteArray) : Option (ByteArray × Bool) := if (a0.size : Int) = 0 then (calepinref06_Of.j0 k a0 a1 ((a1.size : Int) == 0)) else (calepinref06_Of.j0 k a0 a1 false)
theorem calepinref06_Of.mono_l : ∀ k, (∀ y0 y1 y2, LeO (calepinref06_Of.j0 k y0 y1 y2) (calepinref06_Of.j0 (k + 1) y0 y1 y2)) ∧ (∀ y0 y1 y2, LeO (calepinref06_Of.j1 k y0 y1 y2) (calepinref06_Of.j1 (k + 1) y0 y1 y2))
  | 0 => ⟨fun _ _ _ r h => by simp [calepinref06_Of.j0] at h, fun _ _ _ r h => by simp [calepinref06_Of.j1] at h⟩
  | k + 1 => by
    obtain ⟨ih0, ih1⟩ := calepinref06_Of.mono_l k
    refine ⟨?_, ?_⟩
    · intro y0 y1 y2
      unfold calepinref06_Of.j0
      repeat' first
      | (with_reducible exact ih0 _ _ _)
      | (with_reducible exact ih1 _ _ _)
      | (with_reducible exact calepinref06_Fits.mono _ _)
      | (with_reducible exact LeO.refl _)
      | (with_reducible exact LeO.none _)
      | (with_reducible refine LeO.ite ?_ ?_)
      | (with_reducible refine LeO.bind ?_ (fun _ => ?_))
      | exact ih0 _ _ _
      | exact ih1 _ _ _
      | exact calepinref06_Fits.mono _ _
      | exact LeO.none _
      | refine LeO.ite ?_ ?_
      | refine LeO.bind ?_ (fun _ => ?_)
    · intro y0 y1 y2
      unfold calepinref06_Of.j1
      repeat' first
      | (with_reducible exact ih0 _ _ _)
      | (with_reducible exact ih1 _ _ _)
      | (with_reducible exact calepinref06_Fits.mono _ _)
      | (with_reducible exact LeO.refl _)
      | (with_reducible exact LeO.none _)
      | (with_reducible refine LeO.ite ?_ ?_)
      | (with_reducible refine LeO.bind ?_ (fun _ => ?_))
      | exact ih0 _ _ _
      | exact ih1 _ _ _
      | exact calepinref06_Fits.mono _ _
      | exact LeO.none _
      | refine LeO.ite ?_ ?_
      | refine LeO.bind ?_ (fun _ => ?_)
theorem calepinref06_Of.mono : ∀ a0 a1 k, LeO (calepinref06_Of.f k a0 a1) (calepinref06_Of.f (k + 1) a0 a1) := by
  intro a0 a1 k
  obtain ⟨ih0, ih1⟩ := calepinref06_Of.mono_l k
  unfold calepinref06_Of.f
  repeat' first
      | (with_reducible exact ih0 _ _ _)
      | (with_reducible exact ih1 _ _ _)
      | (with_reducible exact calepinref06_Fits.mono _ _)
      | (with_reducible exact LeO.refl _)
      | (with_reducible exact LeO.none _)
      | (with_reducible refine LeO.ite ?_ ?_)
      | (with_reducible refine LeO.bind ?_ (fun _ => ?_))
      | exact ih0 _ _ _
      | exact ih1 _ _ _
      | exact calepinref06_Fits.mono _ _
      | exact LeO.none _
      | refine LeO.ite ?_ ?_
      | refine LeO.bind ?_ (fun _ => ?_)
set_option maxHeartbeats 8000000 in
set_option maxRecDepth 100000 in
theorem calepinref06_Of.calls (k : Nat) (a0 : ByteArray) (a1 : ByteArray) (r1 : ByteArray) (r2 : Bool) (w : World) (h : calepinref06_Of.f k a0 a1 = some (r1, r2)) :
    Calls Tryd.prog 12 #[.string a0, .string a1] w fun e w' => e = .returned (.tuple #[.string r1, .bool r2]) ∧ Below w.heap.size w w' := by
  have HB := Aside0.mk (Below.refl w.heap.size w)
  have H : (if (a0.size : Int) = 0 then (calepinref06_Of.j0 k a0 a1 ((a1.size : Int) == 0)) else (calepinref06_Of.j0 k a0 a1 false)) = some (r1, r2) := h
  clear h
  have HC3 := Aside0.mk H
  clear H
  go_enter Tryd.func12, Tryd.ntmps12
  go_upto_region 1 with (fail)
  go_cut [13] (fun v13 wc => ∃ (kq : Nat) (x13_2 : Bool), v13 = .bool x13_2 ∧ Aside0 (calepinref06_Of.j0 kq a0 a1 x13_2 = some (r1, r2)) ∧ Aside0 (kq ≤ k) ∧ Aside0 (Below w.heap.size w wc))
  case first =>
    have H := HC3.out
    clear HC3
    by_cases c4 : (a0.size : Int) = 0
    · rw [if_pos c4] at H
      have c4b0 : ((a0.size : Int) == 0) = true := beq_iff_eq.mpr c4
      have c4b1 : ((a0.size : Int) != 0) = false := bne_eq_false_iff_eq.mpr c4
      clear c4
      (first | rw [c4b0] | (simp only [i64_w, i32_w]; rw [c4b0]) | skip)
      have H' := Aside0.mk H
      clear H
      go_wp2
      go_meet
      case rel => exact ⟨_, (((a1.size : Int) == 0)), (by first | rfl | (simp; done) | (simp [*]; done)), H', ⟨by first | omega | exact Nat.le_refl _⟩, ⟨by repeat (first | (with_reducible first | exact HB.out | apply below_alloc | apply pw_below_drewN | apply below_drew1) | exact HB.out)⟩⟩
    · rw [if_neg c4] at H
      have c4b0 : ((a0.size : Int) == 0) = false := beq_eq_false_iff_ne.mpr c4
      have c4b1 : ((a0.size : Int) != 0) = true := bne_iff_ne.mpr c4
      (first | rw [c4b0] | (simp only [i64_w, i32_w]; rw [c4b0]) | skip)
      have H' := Aside0.mk H
      clear H
      go_wp2
      go_meet
      case rel => exact ⟨_, (false), (by first | rfl | (simp; done) | (simp [*]; done)), H', ⟨by first | omega | exact Nat.le_refl _⟩, ⟨by repeat (first | (with_reducible first | exact HB.out | apply below_alloc | apply pw_below_drewN | apply below_drew1) | exact HB.out)⟩⟩
  case rest =>
    clear HC3
    try clear c1
    try clear p2
    try clear c4
    try clear c4b0
    try clear c4b1
    obtain ⟨kq, x13_2, rfl, HA, HJ2, HB⟩ := hcut
    cases kq with
    | zero => exact absurd HA.out (by simp [calepinref06_Of.j0])
    | succ kj2 =>
      have H := HA.out
      clear HA
      simp only [calepinref06_Of.j0] at H
      by_cases c5 : x13_2 = true
      · subst c5
        have H1 : (some ((⟨#[47]⟩ : ByteArray), true)) = some (r1, r2) := by rw [if_pos rfl] at H; exact H
        clear H
        have H := H1
        clear H1
        simp only [Option.some.injEq, Prod.mk.injEq] at H
        obtain ⟨rfl, rfl⟩ := H
        go_wp2
        go_ret2
        exact ⟨by first | rfl | (simp [errW_none, errW_some] <;> rfl) | (simp [*, errW_none, errW_some] <;> rfl), by repeat (first | (with_reducible first | exact HB.out | apply below_alloc | apply pw_below_drewN | apply below_drew1) | exact HB.out)⟩
      · replace c5 := Bool.eq_false_iff.mpr c5
        subst c5
        have H1 : ((calepinref06_Fits.f kj2 a0).bind fun t116 => (if t116 = true then (if (a1.size : Int) > 0 then ((calepinref06_Fits.f kj2 a1).bind fun t117 => (calepinref06_Of.j1 kj2 a0 a1 (!t117))) else (calepinref06_Of.j1 kj2 a0 a1 false)) else (calepinref06_Of.j1 kj2 a0 a1 true))) = some (r1, r2) := by rw [if_neg (show ¬ (false = true) by decide)] at H; exact H
        clear H
        have H := H1
        clear H1
        have HC6 := Aside0.mk H
        clear H
        go_upto_region 3 with (fail)
        go_cut [26] (fun v26 wc => ∃ (kq : Nat) (x26_5 : Bool), v26 = .bool x26_5 ∧ Aside0 (calepinref06_Of.j1 kq a0 a1 x26_5 = some (r1, r2)) ∧ Aside0 (kq ≤ kj2) ∧ Aside0 (Below w.heap.size w wc))
        case first =>
          have H := HC6.out
          clear HC6
          replace H := Option.bind_eq_some_iff.mp H
          obtain ⟨t116, A70, H⟩ := H
          replace H : (if t116 = true then (if (a1.size : Int) > 0 then ((calepinref06_Fits.f kj2 a1).bind fun t117 => (calepinref06_Of.j1 kj2 a0 a1 (!t117))) else (calepinref06_Of.j1 kj2 a0 a1 false)) else (calepinref06_Of.j1 kj2 a0 a1 true)) = some (r1, r2) := H
          have A7 := Aside0.mk A70
          clear A70
          by_cases c8 : t116 = true
          · subst c8
            have H1 : (if (a1.size : Int) > 0 then ((calepinref06_Fits.f kj2 a1).bind fun t117 => (calepinref06_Of.j1 kj2 a0 a1 (!t117))) else (calepinref06_Of.j1 kj2 a0 a1 false)) = some (r1, r2) := by rw [if_pos rfl] at H; exact H
            clear H
            have H := H1
            clear H1
            by_cases c9 : (a1.size : Int) > 0
            · rw [if_pos c9] at H
              have c9b0 : decide (0 < (a1.size : Int)) = true := decide_eq_true c9
              have c9b1 : decide (0 < a1.size) = true := decide_eq_true (by omega)
              clear c9
              (first | rw [c9b0] | (simp only [i64_w, i32_w]; rw [c9b0]) | skip)
              replace H := Option.bind_eq_some_iff.mp H
              obtain ⟨t117, A100, H⟩ := H
              replace H : (calepinref06_Of.j1 kj2 a0 a1 (!t117)) = some (r1, r2) := H
              have A10 := Aside0.mk A100
              clear A100
              have H' := Aside0.mk H
              clear H
              go_wp2_with (first | ((with_reducible refine gate_callee (f := 9) rfl ?_); refine goesL_ (some 15) rfl rfl Tryd.func9 (by kernel_rfl) rfl #[.string a0] rfl (by (try simp only [List.map_toArray, List.map_cons, List.map_nil]); first | done | rfl | (simp only [List.length_drop, List.length_take]; rfl)) ?_; (with_reducible refine (calepinref06_Fits.calls kj2 a0 true _ A7.out).mono ?_); rintro e w' ⟨rfl, ⟨nd, rfl⟩⟩; refine ⟨_, rfl, ?_⟩) | (go_at_call 9; (with_reducible refine (calepinref06_Fits.calls kj2 a1 t117 _ A10.out).mono ?_); rintro e w' ⟨rfl, ⟨nd, rfl⟩⟩))
              go_meet
              case rel => exact ⟨_, (!t117), (by first | rfl | (simp; done) | (simp [*]; done)), H', ⟨by have := HJ2.out; first | omega | exact Nat.le_refl _⟩, ⟨by repeat (first | (with_reducible first | exact HB.out | apply below_alloc | apply pw_below_drewN | apply below_drew1) | exact HB.out)⟩⟩
            · rw [if_neg c9] at H
              have c9b0 : decide (0 < (a1.size : Int)) = false := decide_eq_false c9
              have c9b1 : decide (0 < a1.size) = false := decide_eq_false (by omega)
              clear c9
              (first | rw [c9b0] | (simp only [i64_w, i32_w]; rw [c9b0]) | skip)
              have H' := Aside0.mk H
              clear H
              go_wp2_with (first | ((with_reducible refine gate_callee (f := 9) rfl ?_); refine goesL_ (some 15) rfl rfl Tryd.func9 (by kernel_rfl) rfl #[.string a0] rfl (by (try simp only [List.map_toArray, List.map_cons, List.map_nil]); first | done | rfl | (simp only [List.length_drop, List.length_take]; rfl)) ?_; (with_reducible refine (calepinref06_Fits.calls kj2 a0 true _ A7.out).mono ?_); rintro e w' ⟨rfl, ⟨nd, rfl⟩⟩; refine ⟨_, rfl, ?_⟩))
              go_meet
              case rel => exact ⟨_, (false), (by first | rfl | (simp; done) | (simp [*]; done)), H', ⟨by have := HJ2.out; first | omega | exact Nat.le_refl _⟩, ⟨by repeat (first | (with_reducible first | exact HB.out | apply below_alloc | apply pw_below_drewN | apply below_drew1) | exact HB.out)⟩⟩
          · replace c8 := Bool.eq_false_iff.mpr c8
            subst c8
            have H1 : (calepinref06_Of.j1 kj2 a0 a1 true) = some (r1, r2) := by rw [if_neg (show ¬ (false = true) by decide)] at H; exact H
            clear H
            have H := H1
            clear H1
            have H' := Aside0.mk H
            clear H
            go_wp2_with (first | ((with_reducible refine gate_callee (f := 9) rfl ?_); refine goesL_ (some 15) rfl rfl Tryd.func9 (by kernel_rfl) rfl #[.string a0] rfl (by (try simp only [List.map_toArray, List.map_cons, List.map_nil]); first | done | rfl | (simp only [List.length_drop, List.length_take]; rfl)) ?_; (with_reducible refine (calepinref06_Fits.calls kj2 a0 false _ A7.out).mono ?_); rintro e w' ⟨rfl, ⟨nd, rfl⟩⟩; refine ⟨_, rfl, ?_⟩))
            go_meet
            case rel => exact ⟨_, (true), (by first | rfl | (simp; done) | (simp [*]; done)), H', ⟨by have := HJ2.out; first | omega | exact Nat.le_refl _⟩, ⟨by repeat (first | (with_reducible first | exact HB.out | apply below_alloc | apply pw_below_drewN | apply below_drew1) | exact HB.out)⟩⟩
        case rest =>
          clear HC6
          try clear c1
          try clear p2
          try clear c4
          try clear c4b0
          try clear c4b1
          try clear c5
          try clear c8
          try clear c9
          try clear c9b0
          try clear c9b1
          try clear p2
          obtain ⟨kq, x26_5, rfl, HA, HJ5, HB⟩ := hcut
          cases kq with
          | zero => exact absurd HA.out (by simp [calepinref06_Of.j1])
          | succ kj5 =>
            have H := HA.out
            clear HA
            simp only [calepinref06_Of.j1] at H
            by_cases c11 : x26_5 = true
            · subst c11
              have H1 : (some ((⟨#[]⟩ : ByteArray), false)) = some (r1, r2) := by rw [if_pos rfl] at H; exact H
              clear H
              have H := H1
              clear H1
              simp only [Option.some.injEq, Prod.mk.injEq] at H
              obtain ⟨rfl, rfl⟩ := H
              go_wp2
              go_ret2
              exact ⟨by first | rfl | (simp [errW_none, errW_some] <;> rfl) | (simp [*, errW_none, errW_some] <;> rfl), by repeat (first | (with_reducible first | exact HB.out | apply below_alloc | apply pw_below_drewN | apply below_drew1) | exact HB.out)⟩
            · replace c11 := Bool.eq_false_iff.mpr c11
              subst c11
              have H1 : ((calepinref06_Segment.f a0).bind fun t118 => (if 1 + t118.size ≤ 9223372036854775807 then (if ((⟨#[47]⟩ : ByteArray) ++ t118).size + 1 ≤ 9223372036854775807 then ((calepinref06_Segment.f a1).bind fun t119 => (if (((⟨#[47]⟩ : ByteArray) ++ t118) ++ (⟨#[47]⟩ : ByteArray)).size + t119.size ≤ 9223372036854775807 then (some ((((⟨#[47]⟩ : ByteArray) ++ t118) ++ (⟨#[47]⟩ : ByteArray)) ++ t119, true)) else (none))) else (none)) else (none))) = some (r1, r2) := by rw [if_neg (show ¬ (false = true) by decide)] at H; exact H
              clear H
              have H := H1
              clear H1
              replace H := Option.bind_eq_some_iff.mp H
              obtain ⟨t118, A120, H⟩ := H
              replace H : (if 1 + t118.size ≤ 9223372036854775807 then (if ((⟨#[47]⟩ : ByteArray) ++ t118).size + 1 ≤ 9223372036854775807 then ((calepinref06_Segment.f a1).bind fun t119 => (if (((⟨#[47]⟩ : ByteArray) ++ t118) ++ (⟨#[47]⟩ : ByteArray)).size + t119.size ≤ 9223372036854775807 then (some ((((⟨#[47]⟩ : ByteArray) ++ t118) ++ (⟨#[47]⟩ : ByteArray)) ++ t119, true)) else (none))) else (none)) else (none)) = some (r1, r2) := H
              have A12 := Aside0.mk A120
              clear A120
              by_cases c13 : 1 + t118.size ≤ 9223372036854775807
              · rw [if_pos c13] at H
                have c13b0 := eq_true c13
                have c13b1 : decide (1 + t118.size ≤ 9223372036854775807) = true := decide_eq_true c13
                try have c13b2 : (9223372036854775807 < 1 + t118.size) = False := eq_false (Nat.not_lt.2 c13)
                by_cases c14 : ((⟨#[47]⟩ : ByteArray) ++ t118).size + 1 ≤ 9223372036854775807
                · rw [if_pos c14] at H
                  have c14b0 := eq_true c14
                  have c14b1 : decide (((⟨#[47]⟩ : ByteArray) ++ t118).size + 1 ≤ 9223372036854775807) = true := decide_eq_true c14
                  try have c14b2 : (9223372036854775807 < ((⟨#[47]⟩ : ByteArray) ++ t118).size + 1) = False := eq_false (Nat.not_lt.2 c14)
                  replace H := Option.bind_eq_some_iff.mp H
                  obtain ⟨t119, A150, H⟩ := H
                  replace H : (if (((⟨#[47]⟩ : ByteArray) ++ t118) ++ (⟨#[47]⟩ : ByteArray)).size + t119.size ≤ 9223372036854775807 then (some ((((⟨#[47]⟩ : ByteArray) ++ t118) ++ (⟨#[47]⟩ : ByteArray)) ++ t119, true)) else (none)) = some (r1, r2) := H
                  have A15 := Aside0.mk A150
                  clear A150
                  by_cases c16 : (((⟨#[47]⟩ : ByteArray) ++ t118) ++ (⟨#[47]⟩ : ByteArray)).size + t119.size ≤ 9223372036854775807
                  · rw [if_pos c16] at H
                    have c16b0 := eq_true c16
                    have c16b1 : decide ((((⟨#[47]⟩ : ByteArray) ++ t118) ++ (⟨#[47]⟩ : ByteArray)).size + t119.size ≤ 9223372036854775807) = true := decide_eq_true c16
                    try have c16b2 : (9223372036854775807 < (((⟨#[47]⟩ : ByteArray) ++ t118) ++ (⟨#[47]⟩ : ByteArray)).size + t119.size) = False := eq_false (Nat.not_lt.2 c16)
                    have z47 : (⟨#[47]⟩ : ByteArray).size = 1 := rfl
                    have c14b3 : (9223372036854775807 < 1 + t118.size + 1) = False := eq_false (by have h := c14; rw [ByteArray.size_append, z47] at h; omega)
                    have c16b3 : (9223372036854775807 < 1 + t118.size + 1 + t119.size) = False := eq_false (by have h := c16; rw [ByteArray.size_append, ByteArray.size_append, z47] at h; omega)
                    simp only [Option.some.injEq, Prod.mk.injEq] at H
                    obtain ⟨rfl, rfl⟩ := H
                    go_wp2_with (first | ((with_reducible refine gate_callee (f := 10) rfl ?_); refine goesL_ (some 28) rfl rfl Tryd.func10 (by kernel_rfl) rfl #[.string a0] rfl (by (try simp only [List.map_toArray, List.map_cons, List.map_nil]); first | done | rfl | (simp only [List.length_drop, List.length_take]; rfl)) ?_; (with_reducible refine (calepinref06_Segment.calls a0 t118 _ A12.out).mono ?_); rintro e w17 ⟨rfl, hb⟩; refine ⟨_, rfl, ?_⟩; have n0_ := Aside0.mk (below_step (by repeat (first | (with_reducible first | exact HB.out | apply below_alloc | apply pw_below_drewN | apply below_drew1) | exact HB.out)) hb); clear HB; have HB := n0_; clear n0_; (try clear hb); (try clear hb2); (try clear hk); (try clear hi)) | ((with_reducible refine gate_callee (f := 10) rfl ?_); refine goesL_ (some 32) rfl rfl Tryd.func10 (by kernel_rfl) rfl #[.string a1] rfl (by (try simp only [List.map_toArray, List.map_cons, List.map_nil]); first | done | rfl | (simp only [List.length_drop, List.length_take]; rfl)) ?_; (with_reducible refine (calepinref06_Segment.calls a1 t119 _ A15.out).mono ?_); rintro e w18 ⟨rfl, hb⟩; refine ⟨_, rfl, ?_⟩; have n0_ := Aside0.mk (below_step (by repeat (first | (with_reducible first | exact HB.out | apply below_alloc | apply pw_below_drewN | apply below_drew1) | exact HB.out)) hb); clear HB; have HB := n0_; clear n0_; (try clear hb); (try clear hb2); (try clear hk); (try clear hi)))
                    go_ret2
                    exact ⟨by first | rfl | (simp [errW_none, errW_some] <;> rfl) | (simp [*, errW_none, errW_some] <;> rfl), by repeat (first | (with_reducible first | exact HB.out | apply below_alloc | apply pw_below_drewN | apply below_drew1) | exact HB.out)⟩
                  · rw [if_neg c16] at H
                    exact absurd H (by simp)
                · rw [if_neg c14] at H
                  exact absurd H (by simp)
              · rw [if_neg c13] at H
                exact absurd H (by simp)

/-! ### calepinref06_Parse: function 14 -/
mutual
def calepinref06_Parse.j0 : Nat → ByteArray → Bool → Option (ByteArray × ByteArray × Bool)
  | 0, _, _ => none
  | k + 1, x0, x18 => if x18 = true then (some ((⟨#[]⟩ : ByteArray), (⟨#[]⟩ : ByteArray), false)) else (calepinref06_Parse.l0 k x0 1)
def calepinref06_Parse.l0 : Nat → ByteArray → Int → Option (ByteArray × ByteArray × Bool)
  | 0, _, _ => none
  | k + 1, x0, x5 => if x5 < (x0.size : Int) then (if 0 ≤ x5 then (if (bt x0 x5) = 47 then (if 1 ≤ x5 then (if x5 ≤ (x0.size : Int) then ((calepinref06_Text.f k (x0.extract 1 (x5 : Int).toNat)).bind fun bt120 => (if bt120.2 = true then (if (wrap64 (x5 + 1)) = (x0.size : Int) then (some (bt120.1, (⟨#[]⟩ : ByteArray), true)) else (if 0 ≤ (wrap64 (x5 + 1)) then (if (wrap64 (x5 + 1)) ≤ (x0.size : Int) then ((calepinref06_Text.f k (x0.extract ((wrap64 (x5 + 1)) : Int).toNat x0.size)).bind fun bt122 => (if bt122.2 = true then (some (bt120.1, bt122.1, true)) else (some ((⟨#[]⟩ : ByteArray), (⟨#[]⟩ : ByteArray), false)))) else (none)) else (none))) else (some ((⟨#[]⟩ : ByteArray), (⟨#[]⟩ : ByteArray), false)))) else (none)) else (none)) else (calepinref06_Parse.l0 k x0 (wrap64 (x5 + 1)))) else (none)) else (some ((⟨#[]⟩ : ByteArray), (⟨#[]⟩ : ByteArray), false))
end
def calepinref06_Parse.f (k : Nat) (a0 : ByteArray) : Option (ByteArray × ByteArray × Bool) := if a0.toList = ([47] : List UInt8) then (some ((⟨#[]⟩ : ByteArray), (⟨#[]⟩ : ByteArray), true)) else (if (a0.size : Int) = 0 then (calepinref06_Parse.j0 k a0 true) else (if 0 < (a0.size : Int) then (calepinref06_Parse.j0 k a0 ((bt a0 0) != 47)) else (none)))
theorem calepinref06_Parse.mono_l : ∀ k, (∀ y0 y1, LeO (calepinref06_Parse.j0 k y0 y1) (calepinref06_Parse.j0 (k + 1) y0 y1)) ∧ (∀ y0 y1, LeO (calepinref06_Parse.l0 k y0 y1) (calepinref06_Parse.l0 (k + 1) y0 y1))
  | 0 => ⟨fun _ _ r h => by simp [calepinref06_Parse.j0] at h, fun _ _ r h => by simp [calepinref06_Parse.l0] at h⟩
  | k + 1 => by
    obtain ⟨ih0, ih1⟩ := calepinref06_Parse.mono_l k
    refine ⟨?_, ?_⟩
    · intro y0 y1
      unfold calepinref06_Parse.j0
      repeat' first
      | (with_reducible exact ih0 _ _)
      | (with_reducible exact ih1 _ _)
      | (with_reducible exact calepinref06_Text.mono _ _)
      | (with_reducible exact LeO.refl _)
      | (with_reducible exact LeO.none _)
      | (with_reducible refine LeO.ite ?_ ?_)
      | (with_reducible refine LeO.bind ?_ (fun _ => ?_))
      | exact ih0 _ _
      | exact ih1 _ _
      | exact calepinref06_Text.mono _ _
      | exact LeO.none _
      | refine LeO.ite ?_ ?_
      | refine LeO.bind ?_ (fun _ => ?_)
    · intro y0 y1
      unfold calepinref06_Parse.l0
      repeat' first
      | (with_reducible exact ih0 _ _)
      | (with_reducible exact ih1 _ _)
      | (with_reducible exact calepinref06_Text.mono _ _)
      | (with_reducible exact LeO.refl _)
      | (with_reducible exact LeO.none _)
      | (with_reducible refine LeO.ite ?_ ?_)
      | (with_reducible refine LeO.bind ?_ (fun _ => ?_))
      | exact ih0 _ _
      | exact ih1 _ _
      | exact calepinref06_Text.mono _ _
      | exact LeO.none _
      | refine LeO.ite ?_ ?_
      | refine LeO.bind ?_ (fun _ => ?_)
theorem calepinref06_Parse.mono : ∀ a0 k, LeO (calepinref06_Parse.f k a0) (calepinref06_Parse.f (k + 1) a0) := by
  intro a0 k
  obtain ⟨ih0, ih1⟩ := calepinref06_Parse.mono_l k
  unfold calepinref06_Parse.f
  repeat' first
      | (with_reducible exact ih0 _ _)
      | (with_reducible exact ih1 _ _)
      | (with_reducible exact calepinref06_Text.mono _ _)
      | (with_reducible exact LeO.refl _)
      | (with_reducible exact LeO.none _)
      | (with_reducible refine LeO.ite ?_ ?_)
      | (with_reducible refine LeO.bind ?_ (fun _ => ?_))
      | exact ih0 _ _
      | exact ih1 _ _
      | exact calepinref06_Text.mono _ _
      | exact LeO.none _
      | refine LeO.ite ?_ ?_
      | refine LeO.bind ?_ (fun _ => ?_)
set_option maxHeartbeats 8000000 in
set_option maxRecDepth 100000 in
theorem calepinref06_Parse.calls (k : Nat) (a0 : ByteArray) (r1 : ByteArray) (r2 : ByteArray) (r3 : Bool) (w : World) (h : calepinref06_Parse.f k a0 = some (r1, r2, r3)) :
    Calls Tryd.prog 14 #[.string a0] w fun e w' => e = .returned (.tuple #[.string r1, .string r2, .bool r3]) ∧ Below w.heap.size w w' := by
  have HB := Aside0.mk (Below.refl w.heap.size w)
  have H : (if a0.toList = ([47] : List UInt8) then (some ((⟨#[]⟩ : ByteArray), (⟨#[]⟩ : ByteArray), true)) else (if (a0.size : Int) = 0 then (calepinref06_Parse.j0 k a0 true) else (if 0 < (a0.size : Int) then (calepinref06_Parse.j0 k a0 ((bt a0 0) != 47)) else (none)))) = some (r1, r2, r3) := h
  clear h
  by_cases c2 : a0.toList = ([47] : List UInt8)
  · rw [if_pos c2] at H
    have c2b0 : (a0.toList == ([47] : List UInt8)) = true := beq_iff_eq.mpr c2
    have c2b1 : (a0.toList != ([47] : List UInt8)) = false := bne_eq_false_iff_eq.mpr c2
    clear c2
    simp only [Option.some.injEq, Prod.mk.injEq] at H
    obtain ⟨rfl, rfl, rfl⟩ := H
    go_enter Tryd.func14, Tryd.ntmps14
    go_wp2
    go_ret3
    exact ⟨by first | rfl | (simp [errW_none, errW_some] <;> rfl) | (simp [*, errW_none, errW_some] <;> rfl), by repeat (first | (with_reducible first | exact HB.out | apply below_alloc | apply pw_below_drewN | apply below_drew1) | exact HB.out)⟩
  · rw [if_neg c2] at H
    have c2b0 : (a0.toList == ([47] : List UInt8)) = false := beq_eq_false_iff_ne.mpr c2
    have c2b1 : (a0.toList != ([47] : List UInt8)) = true := bne_iff_ne.mpr c2
    have HC3 := Aside0.mk H
    clear H
    go_enter Tryd.func14, Tryd.ntmps14
    go_upto_region 3 with (fail)
    go_cut [18] (fun v18 wc => ∃ (kq : Nat) (x18_2 : Bool), v18 = .bool x18_2 ∧ Aside0 (calepinref06_Parse.j0 kq a0 x18_2 = some (r1, r2, r3)) ∧ Aside0 (kq ≤ k) ∧ Aside0 (Below w.heap.size w wc))
    case first =>
      have H := HC3.out
      clear HC3
      by_cases c4 : (a0.size : Int) = 0
      · rw [if_pos c4] at H
        have c4b0 : ((a0.size : Int) == 0) = true := beq_iff_eq.mpr c4
        have c4b1 : ((a0.size : Int) != 0) = false := bne_eq_false_iff_eq.mpr c4
        clear c4
        (first | rw [c4b0] | (simp only [i64_w, i32_w]; rw [c4b0]) | skip)
        have H' := Aside0.mk H
        clear H
        go_wp2
        go_meet
        case rel => exact ⟨_, (true), (by first | rfl | (simp; done) | (simp [*]; done)), H', ⟨by first | omega | exact Nat.le_refl _⟩, ⟨by repeat (first | (with_reducible first | exact HB.out | apply below_alloc | apply pw_below_drewN | apply below_drew1) | exact HB.out)⟩⟩
      · rw [if_neg c4] at H
        have c4b0 : ((a0.size : Int) == 0) = false := beq_eq_false_iff_ne.mpr c4
        have c4b1 : ((a0.size : Int) != 0) = true := bne_iff_ne.mpr c4
        (first | rw [c4b0] | (simp only [i64_w, i32_w]; rw [c4b0]) | skip)
        by_cases c5 : 0 < (a0.size : Int)
        · rw [if_pos c5] at H
          have c5b0 : decide (0 < (a0.size : Int)) = true := decide_eq_true c5
          have c5b1 : decide (0 < a0.size) = true := decide_eq_true (by omega)
          clear c5
          have H' := Aside0.mk H
          clear H
          have p6 : 0 ≤ (0 : Int) := (by omega)
          have q6 : 0 < a0.size := (by have : (0 : Int) < (a0.size : Int) := of_decide_eq_true (by first | (with_reducible assumption) | assumption); omega)
          have hx6 : ∀ h : 0 < a0.size, ((a0[0]'h).toNat : Int) = bt a0 0 := bt_at a0 0
          clear p6
          have qi6 : (0 < (a0.size : Int)) = True := eq_true (of_decide_eq_true (by first | (with_reducible assumption) | assumption))
          replace q6 := eq_true q6
          go_wp2
          go_meet
          case rel => exact ⟨_, (((bt a0 0) != 47)), (by first | rfl | (simp; done) | (simp [*]; done)), H', ⟨by first | omega | exact Nat.le_refl _⟩, ⟨by repeat (first | (with_reducible first | exact HB.out | apply below_alloc | apply pw_below_drewN | apply below_drew1) | exact HB.out)⟩⟩
        · rw [if_neg c5] at H
          exact absurd H (by simp)
    case rest =>
      clear HC3
      try clear c1
      try clear c2
      try clear c2b0
      try clear c2b1
      try clear p2
      try clear c4
      try clear c4b0
      try clear c4b1
      try clear c5
      try clear c5b0
      try clear c5b1
      try clear p6
      try clear q6
      try clear hx6
      try clear qi6
      try clear p6
      try clear q6
      obtain ⟨kq, x18_2, rfl, HA, HJ2, HB⟩ := hcut
      cases kq with
      | zero => exact absurd HA.out (by simp [calepinref06_Parse.j0])
      | succ kj2 =>
        have H := HA.out
        clear HA
        simp only [calepinref06_Parse.j0] at H
        by_cases c7 : x18_2 = true
        · subst c7
          have H1 : (some ((⟨#[]⟩ : ByteArray), (⟨#[]⟩ : ByteArray), false)) = some (r1, r2, r3) := by rw [if_pos rfl] at H; exact H
          clear H
          have H := H1
          clear H1
          simp only [Option.some.injEq, Prod.mk.injEq] at H
          obtain ⟨rfl, rfl, rfl⟩ := H
          go_wp2
          go_ret3
          exact ⟨by first | rfl | (simp [errW_none, errW_some] <;> rfl) | (simp [*, errW_none, errW_some] <;> rfl), by repeat (first | (with_reducible first | exact HB.out | apply below_alloc | apply pw_below_drewN | apply below_drew1) | exact HB.out)⟩
        · replace c7 := Bool.eq_false_iff.mpr c7
          subst c7
          have H1 : (calepinref06_Parse.l0 kj2 a0 1) = some (r1, r2, r3) := by rw [if_neg (show ¬ (false = true) by decide)] at H; exact H
          clear H
          have H := H1
          clear H1
          have H' := Aside0.mk H
          clear H
          go_wp2
          go_loopg [5] kj2 (fun kq v5 w' => ∃ (x5_2 : Int), v5 = .int .i64 x5_2 ∧ Aside0 (calepinref06_Parse.l0 kq a0 x5_2 = some (r1, r2, r3)) ∧ Aside0 (kq ≤ kj2) ∧ Aside0 (Below w.heap.size w w'))
          case atStart => exact ⟨(1), (by first | rfl | (simp; done) | (simp [*]; done)), H', ⟨Nat.le_refl _⟩, ⟨by repeat (first | (with_reducible first | exact HB.out | apply below_alloc | apply pw_below_drewN | apply below_drew1) | exact HB.out)⟩⟩
          case round =>
            clear H'
            try clear c1
            try clear c2
            try clear c2b0
            try clear c2b1
            try clear p2
            try clear c4
            try clear c4b0
            try clear c4b1
            try clear c5
            try clear c5b0
            try clear c5b1
            try clear p6
            try clear q6
            try clear hx6
            try clear qi6
            try clear c7
            try clear p2
            try clear p6
            try clear q6
            obtain ⟨x5_2, rfl, HA, HK2, HB⟩ := hrel
            cases gk with
            | zero => exact absurd HA.out (by simp [calepinref06_Parse.l0])
            | succ k2 =>
              have H := HA.out
              clear HA
              simp only [calepinref06_Parse.l0] at H
              by_cases c8 : x5_2 < (a0.size : Int)
              · rw [if_pos c8] at H
                have c8b0 : decide (x5_2 < (a0.size : Int)) = true := decide_eq_true c8
                clear c8
                by_cases c9 : 0 ≤ x5_2
                · rw [if_pos c9] at H
                  have c9b0 : decide (0 ≤ x5_2) = true := decide_eq_true c9
                  clear c9
                  by_cases c11 : (bt a0 x5_2) = 47
                  · rw [if_pos c11] at H
                    have c11b0 : ((bt a0 x5_2) == 47) = true := beq_iff_eq.mpr c11
                    have c11b1 : ((bt a0 x5_2) != 47) = false := bne_eq_false_iff_eq.mpr c11
                    clear c11
                    by_cases c12 : 1 ≤ x5_2
                    · rw [if_pos c12] at H
                      have c12b0 := eq_true c12
                      have c12b1 : decide (1 ≤ x5_2) = true := decide_eq_true c12
                      clear c12
                      by_cases c13 : x5_2 ≤ (a0.size : Int)
                      · rw [if_pos c13] at H
                        have c13b0 := eq_true c13
                        have c13b1 : decide (x5_2 ≤ (a0.size : Int)) = true := decide_eq_true c13
                        clear c13
                        replace H := Option.bind_eq_some_iff.mp H
                        obtain ⟨⟨t120, t121⟩, A140, H⟩ := H
                        replace H : (if t121 = true then (if (wrap64 (x5_2 + 1)) = (a0.size : Int) then (some (t120, (⟨#[]⟩ : ByteArray), true)) else (if 0 ≤ (wrap64 (x5_2 + 1)) then (if (wrap64 (x5_2 + 1)) ≤ (a0.size : Int) then ((calepinref06_Text.f k2 (a0.extract ((wrap64 (x5_2 + 1)) : Int).toNat a0.size)).bind fun bt122 => (if bt122.2 = true then (some (t120, bt122.1, true)) else (some ((⟨#[]⟩ : ByteArray), (⟨#[]⟩ : ByteArray), false)))) else (none)) else (none))) else (some ((⟨#[]⟩ : ByteArray), (⟨#[]⟩ : ByteArray), false))) = some (r1, r2, r3) := H
                        have A14 := Aside0.mk A140
                        clear A140
                        by_cases c15 : t121 = true
                        · subst c15
                          have H1 : (if (wrap64 (x5_2 + 1)) = (a0.size : Int) then (some (t120, (⟨#[]⟩ : ByteArray), true)) else (if 0 ≤ (wrap64 (x5_2 + 1)) then (if (wrap64 (x5_2 + 1)) ≤ (a0.size : Int) then ((calepinref06_Text.f k2 (a0.extract ((wrap64 (x5_2 + 1)) : Int).toNat a0.size)).bind fun bt122 => (if bt122.2 = true then (some (t120, bt122.1, true)) else (some ((⟨#[]⟩ : ByteArray), (⟨#[]⟩ : ByteArray), false)))) else (none)) else (none))) = some (r1, r2, r3) := by rw [if_pos rfl] at H; exact H
                          clear H
                          have H := H1
                          clear H1
                          by_cases c16 : (wrap64 (x5_2 + 1)) = (a0.size : Int)
                          · rw [if_pos c16] at H
                            have c16b0 : ((wrap64 (x5_2 + 1)) == (a0.size : Int)) = true := beq_iff_eq.mpr c16
                            have c16b1 : ((wrap64 (x5_2 + 1)) != (a0.size : Int)) = false := bne_eq_false_iff_eq.mpr c16
                            clear c16
                            simp only [Option.some.injEq, Prod.mk.injEq] at H
                            obtain ⟨rfl, rfl, rfl⟩ := H
                            have p10 : 0 ≤ (x5_2 : Int) := of_decide_eq_true (by first | (with_reducible assumption) | assumption)
                            have q10 : x5_2 < (a0.size : Int) := of_decide_eq_true (by first | (with_reducible assumption) | assumption)
                            have hx10 := bt_at a0 x5_2
                            replace p10 := eq_true p10
                            replace q10 := eq_true q10
                            go_wp2_with (first | ((with_reducible refine gate_callee (f := 24) rfl ?_); refine goesL_ (some 33) rfl rfl Tryd.func24 (by kernel_rfl) rfl #[.string (a0.extract 1 (x5_2 : Int).toNat)] rfl (by (try simp only [List.map_toArray, List.map_cons, List.map_nil]); first | done | rfl | (simp only [List.length_drop, List.length_take]; rfl)) ?_; (with_reducible refine (calepinref06_Text.calls k2 (a0.extract 1 (x5_2 : Int).toNat) t120 true _ A14.out).mono ?_); rintro e w17 ⟨rfl, hb⟩; refine ⟨_, rfl, ?_⟩; have n0_ := Aside0.mk (below_step (by repeat (first | (with_reducible first | exact HB.out | apply below_alloc | apply pw_below_drewN | apply below_drew1) | exact HB.out)) hb); clear HB; have HB := n0_; clear n0_; (try clear hb); (try clear hb2); (try clear hk); (try clear hi)))
                            go_ret3
                            exact ⟨by first | rfl | (simp [errW_none, errW_some] <;> rfl) | (simp [*, errW_none, errW_some] <;> rfl), by repeat (first | (with_reducible first | exact HB.out | apply below_alloc | apply pw_below_drewN | apply below_drew1) | exact HB.out)⟩
                          · rw [if_neg c16] at H
                            have c16b0 : ((wrap64 (x5_2 + 1)) == (a0.size : Int)) = false := beq_eq_false_iff_ne.mpr c16
                            have c16b1 : ((wrap64 (x5_2 + 1)) != (a0.size : Int)) = true := bne_iff_ne.mpr c16
                            obtain ⟨ji18, hji18⟩ : ∃ j_ : Int, (wrap64 (x5_2 + 1)) = j_ := ⟨_, rfl⟩
                            replace H : (if 0 ≤ (ji18) then (if (ji18) ≤ (a0.size : Int) then ((calepinref06_Text.f k2 (a0.extract ((ji18) : Int).toNat a0.size)).bind fun bt122 => (if bt122.2 = true then (some (t120, bt122.1, true)) else (some ((⟨#[]⟩ : ByteArray), (⟨#[]⟩ : ByteArray), false)))) else (none)) else (none)) = some (r1, r2, r3) := by first | (rw [hji18] at H; exact H) | (simp only [hji18] at H ⊢; exact H)
                            (try rw [hji18] at c16b0)
                            (try rw [hji18] at c16b1)
                            (try rw [hji18] at A14)
                            have hji18w : (IntKind.i64.wrap (x5_2 + 1)) = ji18 := (i64_w _).trans hji18
                            by_cases c19 : 0 ≤ (ji18)
                            · rw [if_pos c19] at H
                              have c19b0 := eq_true c19
                              have c19b1 : decide (0 ≤ (ji18)) = true := decide_eq_true c19
                              clear c19
                              by_cases c20 : (ji18) ≤ (a0.size : Int)
                              · rw [if_pos c20] at H
                                have c20b0 := eq_true c20
                                have c20b1 : decide ((ji18) ≤ (a0.size : Int)) = true := decide_eq_true c20
                                clear c20
                                replace H := Option.bind_eq_some_iff.mp H
                                obtain ⟨⟨t122, t123⟩, A210, H⟩ := H
                                replace H : (if t123 = true then (some (t120, t122, true)) else (some ((⟨#[]⟩ : ByteArray), (⟨#[]⟩ : ByteArray), false))) = some (r1, r2, r3) := H
                                have A21 := Aside0.mk A210
                                clear A210
                                by_cases c22 : t123 = true
                                · subst c22
                                  have H1 : (some (t120, t122, true)) = some (r1, r2, r3) := by rw [if_pos rfl] at H; exact H
                                  clear H
                                  have H := H1
                                  clear H1
                                  simp only [Option.some.injEq, Prod.mk.injEq] at H
                                  obtain ⟨rfl, rfl, rfl⟩ := H
                                  have p10 : 0 ≤ (x5_2 : Int) := of_decide_eq_true (by first | (with_reducible assumption) | assumption)
                                  have q10 : x5_2 < (a0.size : Int) := of_decide_eq_true (by first | (with_reducible assumption) | assumption)
                                  have hx10 := bt_at a0 x5_2
                                  replace p10 := eq_true p10
                                  replace q10 := eq_true q10
                                  go_wp2_with (first | ((with_reducible refine gate_callee (f := 24) rfl ?_); refine goesL_ (some 33) rfl rfl Tryd.func24 (by kernel_rfl) rfl #[.string (a0.extract 1 (x5_2 : Int).toNat)] rfl (by (try simp only [List.map_toArray, List.map_cons, List.map_nil]); first | done | rfl | (simp only [List.length_drop, List.length_take]; rfl)) ?_; (with_reducible refine (calepinref06_Text.calls k2 (a0.extract 1 (x5_2 : Int).toNat) t120 true _ A14.out).mono ?_); rintro e w23 ⟨rfl, hb⟩; refine ⟨_, rfl, ?_⟩; have n0_ := Aside0.mk (below_step (by repeat (first | (with_reducible first | exact HB.out | apply below_alloc | apply pw_below_drewN | apply below_drew1) | exact HB.out)) hb); clear HB; have HB := n0_; clear n0_; (try clear hb); (try clear hb2); (try clear hk); (try clear hi)) | ((with_reducible refine gate_callee (f := 24) rfl ?_); refine goesL_ (some 49) rfl rfl Tryd.func24 (by kernel_rfl) rfl #[.string (a0.extract ((ji18) : Int).toNat a0.size)] rfl (by (try simp only [List.map_toArray, List.map_cons, List.map_nil]); first | done | (simp only [hji18]; rfl) | rfl | (simp only [List.length_drop, List.length_take]; rfl)) ?_; (with_reducible refine (calepinref06_Text.calls k2 (a0.extract ((ji18) : Int).toNat a0.size) t122 true _ A21.out).mono ?_); rintro e w24 ⟨rfl, hb⟩; refine ⟨_, rfl, ?_⟩; have n0_ := Aside0.mk (below_step (by repeat (first | (with_reducible first | exact HB.out | apply below_alloc | apply pw_below_drewN | apply below_drew1) | exact HB.out)) hb); clear HB; have HB := n0_; clear n0_; (try clear hb); (try clear hb2); (try clear hk); (try clear hi)))
                                  go_ret3
                                  exact ⟨by first | rfl | (simp [errW_none, errW_some] <;> rfl) | (simp only [← hji18]; first | rfl | (simp [errW_none, errW_some] <;> rfl)) | (simp [*, errW_none, errW_some] <;> rfl), by repeat (first | (with_reducible first | exact HB.out | apply below_alloc | apply pw_below_drewN | apply below_drew1) | exact HB.out)⟩
                                · replace c22 := Bool.eq_false_iff.mpr c22
                                  subst c22
                                  have H1 : (some ((⟨#[]⟩ : ByteArray), (⟨#[]⟩ : ByteArray), false)) = some (r1, r2, r3) := by rw [if_neg (show ¬ (false = true) by decide)] at H; exact H
                                  clear H
                                  have H := H1
                                  clear H1
                                  simp only [Option.some.injEq, Prod.mk.injEq] at H
                                  obtain ⟨rfl, rfl, rfl⟩ := H
                                  have p10 : 0 ≤ (x5_2 : Int) := of_decide_eq_true (by first | (with_reducible assumption) | assumption)
                                  have q10 : x5_2 < (a0.size : Int) := of_decide_eq_true (by first | (with_reducible assumption) | assumption)
                                  have hx10 := bt_at a0 x5_2
                                  replace p10 := eq_true p10
                                  replace q10 := eq_true q10
                                  go_wp2_with (first | ((with_reducible refine gate_callee (f := 24) rfl ?_); refine goesL_ (some 33) rfl rfl Tryd.func24 (by kernel_rfl) rfl #[.string (a0.extract 1 (x5_2 : Int).toNat)] rfl (by (try simp only [List.map_toArray, List.map_cons, List.map_nil]); first | done | rfl | (simp only [List.length_drop, List.length_take]; rfl)) ?_; (with_reducible refine (calepinref06_Text.calls k2 (a0.extract 1 (x5_2 : Int).toNat) t120 true _ A14.out).mono ?_); rintro e w25 ⟨rfl, hb⟩; refine ⟨_, rfl, ?_⟩; have n0_ := Aside0.mk (below_step (by repeat (first | (with_reducible first | exact HB.out | apply below_alloc | apply pw_below_drewN | apply below_drew1) | exact HB.out)) hb); clear HB; have HB := n0_; clear n0_; (try clear hb); (try clear hb2); (try clear hk); (try clear hi)) | ((with_reducible refine gate_callee (f := 24) rfl ?_); refine goesL_ (some 49) rfl rfl Tryd.func24 (by kernel_rfl) rfl #[.string (a0.extract ((ji18) : Int).toNat a0.size)] rfl (by (try simp only [List.map_toArray, List.map_cons, List.map_nil]); first | done | (simp only [hji18]; rfl) | rfl | (simp only [List.length_drop, List.length_take]; rfl)) ?_; (with_reducible refine (calepinref06_Text.calls k2 (a0.extract ((ji18) : Int).toNat a0.size) t122 false _ A21.out).mono ?_); rintro e w26 ⟨rfl, hb⟩; refine ⟨_, rfl, ?_⟩; have n0_ := Aside0.mk (below_step (by repeat (first | (with_reducible first | exact HB.out | apply below_alloc | apply pw_below_drewN | apply below_drew1) | exact HB.out)) hb); clear HB; have HB := n0_; clear n0_; (try clear hb); (try clear hb2); (try clear hk); (try clear hi)))
                                  go_ret3
                                  exact ⟨by first | rfl | (simp [errW_none, errW_some] <;> rfl) | (simp only [← hji18]; first | rfl | (simp [errW_none, errW_some] <;> rfl)) | (simp [*, errW_none, errW_some] <;> rfl), by repeat (first | (with_reducible first | exact HB.out | apply below_alloc | apply pw_below_drewN | apply below_drew1) | exact HB.out)⟩
                              · rw [if_neg c20] at H
                                exact absurd H (by simp)
                            · rw [if_neg c19] at H
                              exact absurd H (by simp)
                        · replace c15 := Bool.eq_false_iff.mpr c15
                          subst c15
                          have H1 : (some ((⟨#[]⟩ : ByteArray), (⟨#[]⟩ : ByteArray), false)) = some (r1, r2, r3) := by rw [if_neg (show ¬ (false = true) by decide)] at H; exact H
                          clear H
                          have H := H1
                          clear H1
                          simp only [Option.some.injEq, Prod.mk.injEq] at H
                          obtain ⟨rfl, rfl, rfl⟩ := H
                          have p10 : 0 ≤ (x5_2 : Int) := of_decide_eq_true (by first | (with_reducible assumption) | assumption)
                          have q10 : x5_2 < (a0.size : Int) := of_decide_eq_true (by first | (with_reducible assumption) | assumption)
                          have hx10 := bt_at a0 x5_2
                          replace p10 := eq_true p10
                          replace q10 := eq_true q10
                          go_wp2_with (first | ((with_reducible refine gate_callee (f := 24) rfl ?_); refine goesL_ (some 33) rfl rfl Tryd.func24 (by kernel_rfl) rfl #[.string (a0.extract 1 (x5_2 : Int).toNat)] rfl (by (try simp only [List.map_toArray, List.map_cons, List.map_nil]); first | done | rfl | (simp only [List.length_drop, List.length_take]; rfl)) ?_; (with_reducible refine (calepinref06_Text.calls k2 (a0.extract 1 (x5_2 : Int).toNat) t120 false _ A14.out).mono ?_); rintro e w27 ⟨rfl, hb⟩; refine ⟨_, rfl, ?_⟩; have n0_ := Aside0.mk (below_step (by repeat (first | (with_reducible first | exact HB.out | apply below_alloc | apply pw_below_drewN | apply below_drew1) | exact HB.out)) hb); clear HB; have HB := n0_; clear n0_; (try clear hb); (try clear hb2); (try clear hk); (try clear hi)))
                          go_ret3
                          exact ⟨by first | rfl | (simp [errW_none, errW_some] <;> rfl) | (simp [*, errW_none, errW_some] <;> rfl), by repeat (first | (with_reducible first | exact HB.out | apply below_alloc | apply pw_below_drewN | apply below_drew1) | exact HB.out)⟩
                      · rw [if_neg c13] at H
                        exact absurd H (by simp)
                    · rw [if_neg c12] at H
                      exact absurd H (by simp)
                  · rw [if_neg c11] at H
                    have c11b0 : ((bt a0 x5_2) == 47) = false := beq_eq_false_iff_ne.mpr c11
                    have c11b1 : ((bt a0 x5_2) != 47) = true := bne_iff_ne.mpr c11
                    have H' := Aside0.mk H
                    clear H
                    have p10 : 0 ≤ (x5_2 : Int) := of_decide_eq_true (by first | (with_reducible assumption) | assumption)
                    have q10 : x5_2 < (a0.size : Int) := of_decide_eq_true (by first | (with_reducible assumption) | assumption)
                    have hx10 := bt_at a0 x5_2
                    replace p10 := eq_true p10
                    replace q10 := eq_true q10
                    go_wp2
                    go_roundg k2
                    case measure => have := HJ2.out; have := HK2.out; omega
                    case rel => exact ⟨(wrap64 (x5_2 + 1)), (by first | rfl | (simp; done) | (simp [*]; done)), H', ⟨by have := HJ2.out; have := HK2.out; omega⟩, ⟨by repeat (first | (with_reducible first | exact HB.out | apply below_alloc | apply pw_below_drewN | apply below_drew1) | exact HB.out)⟩⟩
                · rw [if_neg c9] at H
                  exact absurd H (by simp)
              · rw [if_neg c8] at H
                have c8b0 : decide (x5_2 < (a0.size : Int)) = false := decide_eq_false c8
                clear c8
                simp only [Option.some.injEq, Prod.mk.injEq] at H
                obtain ⟨rfl, rfl, rfl⟩ := H
                go_wp2
                go_ret3
                exact ⟨by first | rfl | (simp [errW_none, errW_some] <;> rfl) | (simp [*, errW_none, errW_some] <;> rfl), by repeat (first | (with_reducible first | exact HB.out | apply below_alloc | apply pw_below_drewN | apply below_drew1) | exact HB.out)⟩

end Go.Proofs.YtjgialebelndmaaDoor.PG
