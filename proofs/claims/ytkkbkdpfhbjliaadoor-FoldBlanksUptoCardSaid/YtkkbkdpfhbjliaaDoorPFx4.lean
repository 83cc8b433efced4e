-- Written for this claim by a program of this session (wip/tools/myprint.py) out of the translation. Not trusted: Lean checks it.
import Derived.Test.YtkkbkdpfhbjliaaDoorPFx0
import Derived.Test.YtkkbkdpfhbjliaaDoorPFx3
namespace Go.Proofs.YtkkbkdpfhbjliaaDoor.PF
open Go.RowKit Go.Proofs.YtkkbkdpfhbjliaaDoorW.PrintWords Go.Proofs.YtkkbkdpfhbjliaaDoorW.PrintLast Go.Proofs.YtkkbkdpfhbjliaaDoorW.PrintMore
attribute [local go_sem] max2_int min2_int max_two min_two max_three min_three max_four min_four   -- for this text's walks alone
set_option linter.unusedVariables false
set_option linter.unusedSimpArgs false

/-! ### calepinref02_Fold: function 14 -/
def calepinref02_Fold.l0 : Nat → ByteArray → ByteArray → Int → Bool → Option (ByteArray)
  | 0, _, _, _, _ => none
  | k + 1, x0, x3, x4, x5 => if (x0.size : Int) > 0 then ((calepinref02_Size.f k x0).bind fun t129 => (if t129 > x4 then (if x5 = true then (if 0 ≤ t129 then (if t129 ≤ (x0.size : Int) then (if x3.size + (x0.extract 0 (t129 : Int).toNat).size ≤ 9223372036854775807 then (calepinref02_Fold.l0 k (x0.extract (t129 : Int).toNat x0.size) (x3 ++ (x0.extract 0 (t129 : Int).toNat)) (wrap64 (x4 - t129)) false) else (none)) else (none)) else (none)) else (if x3.size + 3 ≤ 9223372036854775807 then (if 0 ≤ t129 then (if t129 ≤ (x0.size : Int) then (if (x3 ++ (⟨#[13, 10, 32]⟩ : ByteArray)).size + (x0.extract 0 (t129 : Int).toNat).size ≤ 9223372036854775807 then (calepinref02_Fold.l0 k (x0.extract (t129 : Int).toNat x0.size) ((x3 ++ (⟨#[13, 10, 32]⟩ : ByteArray)) ++ (x0.extract 0 (t129 : Int).toNat)) (wrap64 (74 - t129)) false) else (none)) else (none)) else (none)) else (none))) else (if 0 ≤ t129 then (if t129 ≤ (x0.size : Int) then (if x3.size + (x0.extract 0 (t129 : Int).toNat).size ≤ 9223372036854775807 then (calepinref02_Fold.l0 k (x0.extract (t129 : Int).toNat x0.size) (x3 ++ (x0.extract 0 (t129 : Int).toNat)) (wrap64 (x4 - t129)) false) else (none)) else (none)) else (none)))) else (if x3.size + 2 ≤ 9223372036854775807 then (some (x3 ++ (⟨#[13, 10]⟩ : ByteArray))) else (none))
def calepinref02_Fold.f (k : Nat) (a0 : ByteArray) : Option (ByteArray) := calepinref02_Fold.l0 k a0 (⟨#[]⟩ : ByteArray) 75 true
theorem calepinref02_Fold.mono_l : ∀ k, (∀ y0 y1 y2 y3, LeO (calepinref02_Fold.l0 k y0 y1 y2 y3) (calepinref02_Fold.l0 (k + 1) y0 y1 y2 y3))
  | 0 => fun _ _ _ _ r h => by simp [calepinref02_Fold.l0] at h
  | k + 1 => by
    have ih0 := calepinref02_Fold.mono_l k
    · intro y0 y1 y2 y3
      unfold calepinref02_Fold.l0
      repeat' first
      | (with_reducible exact ih0 _ _ _ _)
      | (with_reducible exact calepinref02_Size.mono _ _)
      | (with_reducible exact LeO.refl _)
      | (with_reducible exact LeO.none _)
      | (with_reducible refine LeO.ite ?_ ?_)
      | (with_reducible refine LeO.bind ?_ (fun _ => ?_))
      | exact ih0 _ _ _ _
      | exact calepinref02_Size.mono _ _
      | exact LeO.none _
      | refine LeO.ite ?_ ?_
      | refine LeO.bind ?_ (fun _ => ?_)
theorem calepinref02_Fold.mono : ∀ a0 k, LeO (calepinref02_Fold.f k a0) (calepinref02_Fold.f (k + 1) a0) := by
  intro a0 k
  have ih0 := calepinref02_Fold.mono_l k
  unfold calepinref02_Fold.f
  repeat' first
      | (with_reducible exact ih0 _ _ _ _)
      | (with_reducible exact calepinref02_Size.mono _ _)
      | (with_reducible exact LeO.refl _)
      | (with_reducible exact LeO.none _)
      | (with_reducible refine LeO.ite ?_ ?_)
      | (with_reducible refine LeO.bind ?_ (fun _ => ?_))
      | exact ih0 _ _ _ _
      | exact calepinref02_Size.mono _ _
      | exact LeO.none _
      | refine LeO.ite ?_ ?_
      | refine LeO.bind ?_ (fun _ => ?_)
set_option maxHeartbeats 8000000 in
set_option maxRecDepth 100000 in
theorem calepinref02_Fold.calls (k : Nat) (a0 : ByteArray) (r : ByteArray) (w : World) (h : calepinref02_Fold.f k a0 = some r) :
    Calls Tryd.prog 14 #[.string a0] w fun e w' => e = .returned (.string r) ∧ Drawn0 w w' := by
  have H : (calepinref02_Fold.l0 k a0 (⟨#[]⟩ : ByteArray) 75 true) = some r := h
  clear h
  have H' := Aside0.mk H
  clear H
  go_enter Tryd.func14, Tryd.ntmps14
  go_wp2
  go_loopg [0, 3, 4, 5] k (fun kq v0 v3 v4 v5 w' => ∃ (x0_1 : ByteArray) (x3_1 : ByteArray) (x4_1 : Int) (x5_1 : Bool), v0 = .string x0_1 ∧ v3 = .string x3_1 ∧ v4 = .int .i64 x4_1 ∧ v5 = .bool x5_1 ∧ Aside0 (calepinref02_Fold.l0 kq x0_1 x3_1 x4_1 x5_1 = some r) ∧ Aside0 (kq ≤ k) ∧ Drawn0 w w')
  case atStart => exact ⟨(a0), ((⟨#[]⟩ : ByteArray)), (75), (true), (by first | rfl | (simp; done) | (simp [*]; done)), (by first | rfl | (simp; done) | (simp [*]; done)), (by first | rfl | (simp; done) | (simp [*]; done)), (by first | rfl | (simp; done) | (simp [*]; done)), H', ⟨Nat.le_refl _⟩, by repeat (first | exact Drawn0.refl _ | apply Drawn0.step)⟩
  case round =>
    clear H'
    try clear c1
    obtain ⟨x0_1, x3_1, x4_1, x5_1, rfl, rfl, rfl, rfl, HA, HK1, ⟨m1, rfl⟩⟩ := hrel
    cases gk with
    | zero => exact absurd HA.out (by simp [calepinref02_Fold.l0])
    | succ k1 =>
      have H := HA.out
      clear HA
      simp only [calepinref02_Fold.l0] at H
      by_cases c2 : (x0_1.size : Int) > 0
      · rw [if_pos c2] at H
        have c2b0 : decide (0 < (x0_1.size : Int)) = true := decide_eq_true c2
        have c2b1 : decide (0 < x0_1.size) = true := decide_eq_true (by omega)
        clear c2
        replace H := Option.bind_eq_some_iff.mp H
        obtain ⟨t129, A30, H⟩ := H
        replace H : (if t129 > x4_1 then (if x5_1 = true then (if 0 ≤ t129 then (if t129 ≤ (x0_1.size : Int) then (if x3_1.size + (x0_1.extract 0 (t129 : Int).toNat).size ≤ 9223372036854775807 then (calepinref02_Fold.l0 k1 (x0_1.extract (t129 : Int).toNat x0_1.size) (x3_1 ++ (x0_1.extract 0 (t129 : Int).toNat)) (wrap64 (x4_1 - t129)) false) else (none)) else (none)) else (none)) else (if x3_1.size + 3 ≤ 9223372036854775807 then (if 0 ≤ t129 then (if t129 ≤ (x0_1.size : Int) then (if (x3_1 ++ (⟨#[13, 10, 32]⟩ : ByteArray)).size + (x0_1.extract 0 (t129 : Int).toNat).size ≤ 9223372036854775807 then (calepinref02_Fold.l0 k1 (x0_1.extract (t129 : Int).toNat x0_1.size) ((x3_1 ++ (⟨#[13, 10, 32]⟩ : ByteArray)) ++ (x0_1.extract 0 (t129 : Int).toNat)) (wrap64 (74 - t129)) false) else (none)) else (none)) else (none)) else (none))) else (if 0 ≤ t129 then (if t129 ≤ (x0_1.size : Int) then (if x3_1.size + (x0_1.extract 0 (t129 : Int).toNat).size ≤ 9223372036854775807 then (calepinref02_Fold.l0 k1 (x0_1.extract (t129 : Int).toNat x0_1.size) (x3_1 ++ (x0_1.extract 0 (t129 : Int).toNat)) (wrap64 (x4_1 - t129)) false) else (none)) else (none)) else (none))) = some r := H
        have A3 := Aside0.mk A30
        clear A30
        by_cases c4 : t129 > x4_1
        · rw [if_pos c4] at H
          have c4b0 : decide (x4_1 < t129) = true := decide_eq_true c4
          clear c4
          by_cases c5 : x5_1 = true
          · subst c5
            have H1 : (if 0 ≤ t129 then (if t129 ≤ (x0_1.size : Int) then (if x3_1.size + (x0_1.extract 0 (t129 : Int).toNat).size ≤ 9223372036854775807 then (calepinref02_Fold.l0 k1 (x0_1.extract (t129 : Int).toNat x0_1.size) (x3_1 ++ (x0_1.extract 0 (t129 : Int).toNat)) (wrap64 (x4_1 - t129)) false) else (none)) else (none)) else (none)) = some r := by rw [if_pos rfl] at H; exact H
            clear H
            have H := H1
            clear H1
            by_cases c6 : 0 ≤ t129
            · rw [if_pos c6] at H
              have c6b0 := eq_true c6
              have c6b1 : decide (0 ≤ t129) = true := decide_eq_true c6
              clear c6
              by_cases c7 : t129 ≤ (x0_1.size : Int)
              · rw [if_pos c7] at H
                have c7b0 := eq_true c7
                have c7b1 : decide (t129 ≤ (x0_1.size : Int)) = true := decide_eq_true c7
                clear c7
                by_cases c8 : x3_1.size + (x0_1.extract 0 (t129 : Int).toNat).size ≤ 9223372036854775807
                · rw [if_pos c8] at H
                  have c8b0 := eq_true c8
                  have c8b1 : decide (x3_1.size + (x0_1.extract 0 (t129 : Int).toNat).size ≤ 9223372036854775807) = true := decide_eq_true c8
                  try have c8b2 : (9223372036854775807 < x3_1.size + (x0_1.extract 0 (t129 : Int).toNat).size) = False := eq_false (Nat.not_lt.2 c8)
                  have c9b0 := eq_true (of_decide_eq_true (by first | (with_reducible assumption) | assumption) : 0 ≤ t129)
                  have c10b0 := eq_true (of_decide_eq_true (by first | (with_reducible assumption) | assumption) : t129 ≤ (x0_1.size : Int))
                  have H' := Aside0.mk H
                  clear H
                  go_wp2_with (first | ((with_reducible refine gate_callee (f := 13) rfl ?_); refine goesL_ (some 11) rfl rfl Tryd.func13 (by kernel_rfl) rfl #[.string x0_1] rfl (by (try simp only [List.map_toArray, List.map_cons, List.map_nil]); first | done | rfl | (simp only [List.length_drop, List.length_take]; rfl)) ?_; (with_reducible refine (calepinref02_Size.calls k1 x0_1 t129 _ A3.out).mono ?_); rintro e w' ⟨rfl, ⟨nd, rfl⟩⟩; refine ⟨_, rfl, ?_⟩))
                  go_roundg k1
                  case measure => have := HK1.out; omega
                  case rel => exact ⟨(x0_1.extract (t129 : Int).toNat x0_1.size), (x3_1 ++ (x0_1.extract 0 (t129 : Int).toNat)), (wrap64 (x4_1 - t129)), (false), (by first | rfl | (simp; done) | (simp [*]; done)), (by first | rfl | (simp; done) | (simp [*]; done)), (by first | rfl | (simp; done) | (simp [*]; done)), (by first | rfl | (simp; done) | (simp [*]; done)), H', ⟨by have := HK1.out; omega⟩, by repeat (first | exact Drawn0.refl _ | apply Drawn0.step)⟩
                · rw [if_neg c8] at H
                  exact absurd H (by simp)
              · rw [if_neg c7] at H
                exact absurd H (by simp)
            · rw [if_neg c6] at H
              exact absurd H (by simp)
          · replace c5 := Bool.eq_false_iff.mpr c5
            subst c5
            have H1 : (if x3_1.size + 3 ≤ 9223372036854775807 then (if 0 ≤ t129 then (if t129 ≤ (x0_1.size : Int) then (if (x3_1 ++ (⟨#[13, 10, 32]⟩ : ByteArray)).size + (x0_1.extract 0 (t129 : Int).toNat).size ≤ 9223372036854775807 then (calepinref02_Fold.l0 k1 (x0_1.extract (t129 : Int).toNat x0_1.size) ((x3_1 ++ (⟨#[13, 10, 32]⟩ : ByteArray)) ++ (x0_1.extract 0 (t129 : Int).toNat)) (wrap64 (74 - t129)) false) else (none)) else (none)) else (none)) else (none)) = some r := by rw [if_neg (show ¬ (false = true) by decide)] at H; exact H
            clear H
            have H := H1
            clear H1
            by_cases c11 : x3_1.size + 3 ≤ 9223372036854775807
            · rw [if_pos c11] at H
              have c11b0 := eq_true c11
              have c11b1 : decide (x3_1.size + 3 ≤ 9223372036854775807) = true := decide_eq_true c11
              try have c11b2 : (9223372036854775807 < x3_1.size + 3) = False := eq_false (Nat.not_lt.2 c11)
              by_cases c12 : 0 ≤ t129
              · rw [if_pos c12] at H
                have c12b0 := eq_true c12
                have c12b1 : decide (0 ≤ t129) = true := decide_eq_true c12
                clear c12
                by_cases c13 : t129 ≤ (x0_1.size : Int)
                · rw [if_pos c13] at H
                  have c13b0 := eq_true c13
                  have c13b1 : decide (t129 ≤ (x0_1.size : Int)) = true := decide_eq_true c13
                  clear c13
                  by_cases c14 : (x3_1 ++ (⟨#[13, 10, 32]⟩ : ByteArray)).size + (x0_1.extract 0 (t129 : Int).toNat).size ≤ 9223372036854775807
                  · rw [if_pos c14] at H
                    have c14b0 := eq_true c14
                    have c14b1 : decide ((x3_1 ++ (⟨#[13, 10, 32]⟩ : ByteArray)).size + (x0_1.extract 0 (t129 : Int).toNat).size ≤ 9223372036854775807) = true := decide_eq_true c14
                    try have c14b2 : (9223372036854775807 < (x3_1 ++ (⟨#[13, 10, 32]⟩ : ByteArray)).size + (x0_1.extract 0 (t129 : Int).toNat).size) = False := eq_false (Nat.not_lt.2 c14)
                    have c15b0 := eq_true (of_decide_eq_true (by first | (with_reducible assumption) | assumption) : 0 ≤ t129)
                    have c16b0 := eq_true (of_decide_eq_true (by first | (with_reducible assumption) | assumption) : t129 ≤ (x0_1.size : Int))
                    have H' := Aside0.mk H
                    clear H
                    go_wp2_with (first | ((with_reducible refine gate_callee (f := 13) rfl ?_); refine goesL_ (some 11) rfl rfl Tryd.func13 (by kernel_rfl) rfl #[.string x0_1] rfl (by (try simp only [List.map_toArray, List.map_cons, List.map_nil]); first | done | rfl | (simp only [List.length_drop, List.length_take]; rfl)) ?_; (with_reducible refine (calepinref02_Size.calls k1 x0_1 t129 _ A3.out).mono ?_); rintro e w' ⟨rfl, ⟨nd, rfl⟩⟩; refine ⟨_, rfl, ?_⟩))
                    go_roundg k1
                    case measure => have := HK1.out; omega
                    case rel => exact ⟨(x0_1.extract (t129 : Int).toNat x0_1.size), ((x3_1 ++ (⟨#[13, 10, 32]⟩ : ByteArray)) ++ (x0_1.extract 0 (t129 : Int).toNat)), (wrap64 (74 - t129)), (false), (by first | rfl | (simp; done) | (simp [*]; done)), (by first | rfl | (simp; done) | (simp [*]; done)), (by first | rfl | (simp; done) | (simp [*]; done)), (by first | rfl | (simp; done) | (simp [*]; done)), H', ⟨by have := HK1.out; omega⟩, by repeat (first | exact Drawn0.refl _ | apply Drawn0.step)⟩
                  · rw [if_neg c14] at H
                    exact absurd H (by simp)
                · rw [if_neg c13] at H
                  exact absurd H (by simp)
              · rw [if_neg c12] at H
                exact absurd H (by simp)
            · rw [if_neg c11] at H
              exact absurd H (by simp)
        · rw [if_neg c4] at H
          have c4b0 : decide (x4_1 < t129) = false := decide_eq_false c4
          clear c4
          by_cases c17 : 0 ≤ t129
          · rw [if_pos c17] at H
            have c17b0 := eq_true c17
            have c17b1 : decide (0 ≤ t129) = true := decide_eq_true c17
            clear c17
            by_cases c18 : t129 ≤ (x0_1.size : Int)
            · rw [if_pos c18] at H
              have c18b0 := eq_true c18
              have c18b1 : decide (t129 ≤ (x0_1.size : Int)) = true := decide_eq_true c18
              clear c18
              by_cases c19 : x3_1.size + (x0_1.extract 0 (t129 : Int).toNat).size ≤ 9223372036854775807
              · rw [if_pos c19] at H
                have c19b0 := eq_true c19
                have c19b1 : decide (x3_1.size + (x0_1.extract 0 (t129 : Int).toNat).size ≤ 9223372036854775807) = true := decide_eq_true c19
                try have c19b2 : (9223372036854775807 < x3_1.size + (x0_1.extract 0 (t129 : Int).toNat).size) = False := eq_false (Nat.not_lt.2 c19)
                have c20b0 := eq_true (of_decide_eq_true (by first | (with_reducible assumption) | assumption) : 0 ≤ t129)
                have c21b0 := eq_true (of_decide_eq_true (by first | (with_reducible assumption) | assumption) : t129 ≤ (x0_1.size : Int))
                have H' := Aside0.mk H
                clear H
                go_wp2_with (first | ((with_reducible refine gate_callee (f := 13) rfl ?_); refine goesL_ (some 11) rfl rfl Tryd.func13 (by kernel_rfl) rfl #[.string x0_1] rfl (by (try simp only [List.map_toArray, List.map_cons, List.map_nil]); first | done | rfl | (simp only [List.length_drop, List.length_take]; rfl)) ?_; (with_reducible refine (calepinref02_Size.calls k1 x0_1 t129 _ A3.out).mono ?_); rintro e w' ⟨rfl, ⟨nd, rfl⟩⟩; refine ⟨_, rfl, ?_⟩))
                go_roundg k1
                case measure => have := HK1.out; omega
                case rel => exact ⟨(x0_1.extract (t129 : Int).toNat x0_1.size), (x3_1 ++ (x0_1.extract 0 (t129 : Int).toNat)), (wrap64 (x4_1 - t129)), (false), (by first | rfl | (simp; done) | (simp [*]; done)), (by first | rfl | (simp; done) | (simp [*]; done)), (by first | rfl | (simp; done) | (simp [*]; done)), (by first | rfl | (simp; done) | (simp [*]; done)), H', ⟨by have := HK1.out; omega⟩, by repeat (first | exact Drawn0.refl _ | apply Drawn0.step)⟩
              · rw [if_neg c19] at H
                exact absurd H (by simp)
            · rw [if_neg c18] at H
              exact absurd H (by simp)
          · rw [if_neg c17] at H
            exact absurd H (by simp)
      · rw [if_neg c2] at H
        have c2b0 : decide (0 < (x0_1.size : Int)) = false := decide_eq_false c2
        have c2b1 : decide (0 < x0_1.size) = false := decide_eq_false (by omega)
        clear c2
        by_cases c22 : x3_1.size + 2 ≤ 9223372036854775807
        · rw [if_pos c22] at H
          have c22b0 := eq_true c22
          have c22b1 : decide (x3_1.size + 2 ≤ 9223372036854775807) = true := decide_eq_true c22
          try have c22b2 : (9223372036854775807 < x3_1.size + 2) = False := eq_false (Nat.not_lt.2 c22)
          obtain rfl := Option.some.inj H
          go_wp2
          go_ret
          exact ⟨by first | rfl | (simp; done) | (simp [*]; done), by repeat (first | exact Drawn0.refl _ | apply Drawn0.step)⟩
        · rw [if_neg c22] at H
          exact absurd H (by simp)

end Go.Proofs.YtkkbkdpfhbjliaaDoor.PF
