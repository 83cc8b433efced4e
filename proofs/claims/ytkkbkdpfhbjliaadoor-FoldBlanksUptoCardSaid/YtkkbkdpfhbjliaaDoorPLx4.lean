-- Written for this claim by a program of this session (wip/tools/myprint.py) out of the translation. Not trusted: Lean checks it.
import Derived.Test.YtkkbkdpfhbjliaaDoorPLx0
import Derived.Test.YtkkbkdpfhbjliaaDoorPLx1
namespace Go.Proofs.YtkkbkdpfhbjliaaDoor.PL
open Go.RowKit Go.Proofs.YtkkbkdpfhbjliaaDoorW.PrintWords Go.Proofs.YtkkbkdpfhbjliaaDoorW.PrintLast Go.Proofs.YtkkbkdpfhbjliaaDoorW.PrintMore
attribute [local go_sem] max2_int min2_int max_two min_two max_three min_three max_four min_four   -- for this text's walks alone
set_option linter.unusedVariables false
set_option linter.unusedSimpArgs false

/-! ### calepinlaw02_FoldBlanks: function 7 -/
mutual
def calepinlaw02_FoldBlanks.j0 : Nat → ByteArray → List Int → Bool → Option (Bool)
  | 0, _, _, _ => none
  | k + 1, x0, x1, x21 => if x21 = true then (some true) else (calepinlaw02_FoldBlanks.l0 k x0 (⟨#[]⟩ : ByteArray) 0 x1 (x1.length : Int) 0)
def calepinlaw02_FoldBlanks.l0 : Nat → ByteArray → ByteArray → Int → List Int → Int → Int → Option (Bool)
  | 0, _, _, _, _, _, _ => none
  | k + 1, x0, x5, x6, x22, x23, x24 => if x24 < x23 then (if 0 ≤ x24 then (if x24 < (x22.length : Int) then (if x24 ≥ 20 then (if 0 ≤ x6 then (if x6 ≤ (x0.size : Int) then (if (x0.extract (x6 : Int).toNat x0.size).size + 1 ≤ 9223372036854775807 then (if x5.size + ((x0.extract (x6 : Int).toNat x0.size) ++ (⟨#[10]⟩ : ByteArray)).size ≤ 9223372036854775807 then ((fold_Unfold.f (x5 ++ ((x0.extract (x6 : Int).toNat x0.size) ++ (⟨#[10]⟩ : ByteArray)))).bind fun bt164 => (if bt164.2 = 0 then (if (bt164.1.length : Int) = 1 then (if 0 < (bt164.1.length : Int) then (some ((rdOf ByteArray.empty bt164.1 0).toList == x0.toList)) else (none)) else (some false)) else (some false))) else (none)) else (none)) else (none)) else (none)) else (if (wrap64 (x6 + (wrap64 (1 + (wrap64 (Int.tmod (IntKind.u64.wrap (rd x22 x24)) 7)))))) ≥ (x0.size : Int) then (if 0 ≤ x6 then (if x6 ≤ (x0.size : Int) then (if (x0.extract (x6 : Int).toNat x0.size).size + 1 ≤ 9223372036854775807 then (if x5.size + ((x0.extract (x6 : Int).toNat x0.size) ++ (⟨#[10]⟩ : ByteArray)).size ≤ 9223372036854775807 then ((fold_Unfold.f (x5 ++ ((x0.extract (x6 : Int).toNat x0.size) ++ (⟨#[10]⟩ : ByteArray)))).bind fun bt169 => (if bt169.2 = 0 then (if (bt169.1.length : Int) = 1 then (if 0 < (bt169.1.length : Int) then (some ((rdOf ByteArray.empty bt169.1 0).toList == x0.toList)) else (none)) else (some false)) else (some false))) else (none)) else (none)) else (none)) else (none)) else (if 0 ≤ x6 then (if x6 ≤ (wrap64 (x6 + (wrap64 (1 + (wrap64 (Int.tmod (IntKind.u64.wrap (rd x22 x24)) 7)))))) then (if (wrap64 (x6 + (wrap64 (1 + (wrap64 (Int.tmod (IntKind.u64.wrap (rd x22 x24)) 7)))))) ≤ (x0.size : Int) then ((some (([(⟨#[10, 32]⟩ : ByteArray), (⟨#[10, 9]⟩ : ByteArray), (⟨#[13, 10, 32]⟩ : ByteArray), (⟨#[13, 10, 9]⟩ : ByteArray)] : List ByteArray) : List ByteArray)).bind fun y174 => (if 0 ≤ (Int.tmod (IntKind.u64.wrap (Int.tdiv (IntKind.u64.wrap (rd x22 x24)) 7)) 4) then (if (Int.tmod (IntKind.u64.wrap (Int.tdiv (IntKind.u64.wrap (rd x22 x24)) 7)) 4) < (y174.length : Int) then (if (x0.extract (x6 : Int).toNat ((wrap64 (x6 + (wrap64 (1 + (wrap64 (Int.tmod (IntKind.u64.wrap (rd x22 x24)) 7)))))) : Int).toNat).size + (rdOf ByteArray.empty y174 (Int.tmod (IntKind.u64.wrap (Int.tdiv (IntKind.u64.wrap (rd x22 x24)) 7)) 4)).size ≤ 9223372036854775807 then (if x5.size + ((x0.extract (x6 : Int).toNat ((wrap64 (x6 + (wrap64 (1 + (wrap64 (Int.tmod (IntKind.u64.wrap (rd x22 x24)) 7)))))) : Int).toNat) ++ (rdOf ByteArray.empty y174 (Int.tmod (IntKind.u64.wrap (Int.tdiv (IntKind.u64.wrap (rd x22 x24)) 7)) 4))).size ≤ 9223372036854775807 then (calepinlaw02_FoldBlanks.l0 k x0 (x5 ++ ((x0.extract (x6 : Int).toNat ((wrap64 (x6 + (wrap64 (1 + (wrap64 (Int.tmod (IntKind.u64.wrap (rd x22 x24)) 7)))))) : Int).toNat) ++ (rdOf ByteArray.empty y174 (Int.tmod (IntKind.u64.wrap (Int.tdiv (IntKind.u64.wrap (rd x22 x24)) 7)) 4)))) (wrap64 (x6 + (wrap64 (1 + (wrap64 (Int.tmod (IntKind.u64.wrap (rd x22 x24)) 7)))))) x22 x23 (wrap64 (x24 + 1))) else (none)) else (none)) else (none)) else (none))) else (none)) else (none)) else (none)))) else (none)) else (none)) else (if 0 ≤ x6 then (if x6 ≤ (x0.size : Int) then (if (x0.extract (x6 : Int).toNat x0.size).size + 1 ≤ 9223372036854775807 then (if x5.size + ((x0.extract (x6 : Int).toNat x0.size) ++ (⟨#[10]⟩ : ByteArray)).size ≤ 9223372036854775807 then ((fold_Unfold.f (x5 ++ ((x0.extract (x6 : Int).toNat x0.size) ++ (⟨#[10]⟩ : ByteArray)))).bind fun bt178 => (if bt178.2 = 0 then (if (bt178.1.length : Int) = 1 then (if 0 < (bt178.1.length : Int) then (some ((rdOf ByteArray.empty bt178.1 0).toList == x0.toList)) else (none)) else (some false)) else (some false))) else (none)) else (none)) else (none)) else (none))
end
def calepinlaw02_FoldBlanks.f (k : Nat) (a0 : ByteArray) (l1 : List Int) : Option (Bool) := (calepinlaw02_first.f).bind fun t161 => (if t161 = true then ((fold_Good.f a0).bind fun t162 => (if t162 = true then (calepinlaw02_FoldBlanks.j0 k a0 l1 (decide ((a0.size : Int) > 2000))) else (calepinlaw02_FoldBlanks.j0 k a0 l1 true))) else (some false))
theorem calepinlaw02_FoldBlanks.mono_l : ∀ k, (∀ y0 y1 y2, LeO (calepinlaw02_FoldBlanks.j0 k y0 y1 y2) (calepinlaw02_FoldBlanks.j0 (k + 1) y0 y1 y2)) ∧ (∀ y0 y1 y2 y3 y4 y5, LeO (calepinlaw02_FoldBlanks.l0 k y0 y1 y2 y3 y4 y5) (calepinlaw02_FoldBlanks.l0 (k + 1) y0 y1 y2 y3 y4 y5))
  | 0 => ⟨fun _ _ _ r h => by simp [calepinlaw02_FoldBlanks.j0] at h, fun _ _ _ _ _ _ r h => by simp [calepinlaw02_FoldBlanks.l0] at h⟩
  | k + 1 => by
    obtain ⟨ih0, ih1⟩ := calepinlaw02_FoldBlanks.mono_l k
    refine ⟨?_, ?_⟩
    · intro y0 y1 y2
      unfold calepinlaw02_FoldBlanks.j0
      repeat' first
      | (with_reducible exact ih0 _ _ _)
      | (with_reducible exact ih1 _ _ _ _ _ _)
      | (with_reducible exact LeO.refl _)
      | (with_reducible exact LeO.none _)
      | (with_reducible refine LeO.ite ?_ ?_)
      | (with_reducible refine LeO.bind ?_ (fun _ => ?_))
      | exact ih0 _ _ _
      | exact ih1 _ _ _ _ _ _
      | exact LeO.none _
      | refine LeO.ite ?_ ?_
      | refine LeO.bind ?_ (fun _ => ?_)
    · intro y0 y1 y2 y3 y4 y5
      unfold calepinlaw02_FoldBlanks.l0
      repeat' first
      | (with_reducible exact ih0 _ _ _)
      | (with_reducible exact ih1 _ _ _ _ _ _)
      | (with_reducible exact LeO.refl _)
      | (with_reducible exact LeO.none _)
      | (with_reducible refine LeO.ite ?_ ?_)
      | (with_reducible refine LeO.bind ?_ (fun _ => ?_))
      | exact ih0 _ _ _
      | exact ih1 _ _ _ _ _ _
      | exact LeO.none _
      | refine LeO.ite ?_ ?_
      | refine LeO.bind ?_ (fun _ => ?_)
theorem calepinlaw02_FoldBlanks.mono : ∀ a0 a1 k, LeO (calepinlaw02_FoldBlanks.f k a0 a1) (calepinlaw02_FoldBlanks.f (k + 1) a0 a1) := by
  intro a0 a1 k
  obtain ⟨ih0, ih1⟩ := calepinlaw02_FoldBlanks.mono_l k
  unfold calepinlaw02_FoldBlanks.f
  repeat' first
      | (with_reducible exact ih0 _ _ _)
      | (with_reducible exact ih1 _ _ _ _ _ _)
      | (with_reducible exact LeO.refl _)
      | (with_reducible exact LeO.none _)
      | (with_reducible refine LeO.ite ?_ ?_)
      | (with_reducible refine LeO.bind ?_ (fun _ => ?_))
      | exact ih0 _ _ _
      | exact ih1 _ _ _ _ _ _
      | exact LeO.none _
      | refine LeO.ite ?_ ?_
      | refine LeO.bind ?_ (fun _ => ?_)
def calepinlaw02_FoldBlanks.T11 : Bool × List (List Nat × List Nat) := (true, [([], []), ([], []), ([], []), ([], []), ([], []), ([3, 4], [3, 4]), ([1, 2, 5], [1, 2, 5]), ([], []), ([], []), ([8], [8]), ([9], [9]), ([10], [10]), ([7, 11], [7, 11]), ([12], [12]), ([6, 13], [6, 13]), ([0, 14], [0, 14]), ([15, 0, 1, 2, 3, 4, 5, 6, 7, 8, 9, 10, 11, 12, 13, 14, 15], [0, 15])])
def calepinlaw02_FoldBlanks.B11 : List Nat := [0, 0, 0, 0, 0, 24, 62, 0, 0, 256, 768, 1792, 3968, 8064, 16382, 32767, 65535]
theorem calepinlaw02_FoldBlanks.tab11 : rtab .any (opsOf Tryd.f7 11) = calepinlaw02_FoldBlanks.T11 := by kernel_rfl
theorem calepinlaw02_FoldBlanks.bits11 : waitsOk calepinlaw02_FoldBlanks.T11.2 calepinlaw02_FoldBlanks.B11 = true := by kernel_rfl
set_option maxHeartbeats 8000000 in
set_option maxRecDepth 100000 in
theorem calepinlaw02_FoldBlanks.calls (k : Nat) (a0 : ByteArray) (A1 : Option Addr) (c1 : Nat) (l1 : List Int) (r : Bool) (w : World) (hr1 : Kd.C (Kd.int .i64) w A1 l1.length l1) (hc1 : l1.length ≤ c1) (h : calepinlaw02_FoldBlanks.f k a0 l1 = some r) (hT : Lib.Utf8Tabs 1 2 w) :
    Calls Tryd.prog 7 #[.string a0, .slice A1 l1.length c1] w fun e w' => e = .returned (.bool r) ∧ Below w.heap.size w w' := by
  have HT := Aside0.mk hT
  clear hT
  have HR1 := Aside0.mk hr1
  have HC1 := Aside0.mk hc1
  clear hr1 hc1
  have HB := Aside0.mk (Below.refl w.heap.size w)
  have H : ((calepinlaw02_first.f).bind fun t161 => (if t161 = true then ((fold_Good.f a0).bind fun t162 => (if t162 = true then (calepinlaw02_FoldBlanks.j0 k a0 l1 (decide ((a0.size : Int) > 2000))) else (calepinlaw02_FoldBlanks.j0 k a0 l1 true))) else (some false))) = some r := h
  clear h
  replace H := Option.bind_eq_some_iff.mp H
  obtain ⟨t161, A30, H⟩ := H
  replace H : (if t161 = true then ((fold_Good.f a0).bind fun t162 => (if t162 = true then (calepinlaw02_FoldBlanks.j0 k a0 l1 (decide ((a0.size : Int) > 2000))) else (calepinlaw02_FoldBlanks.j0 k a0 l1 true))) else (some false)) = some r := H
  have A3 := Aside0.mk A30
  clear A30
  by_cases c4 : t161 = true
  · subst c4
    have H1 : ((fold_Good.f a0).bind fun t162 => (if t162 = true then (calepinlaw02_FoldBlanks.j0 k a0 l1 (decide ((a0.size : Int) > 2000))) else (calepinlaw02_FoldBlanks.j0 k a0 l1 true))) = some r := by rw [if_pos rfl] at H; exact H
    clear H
    have H := H1
    clear H1
    have HC5 := Aside0.mk H
    clear H
    go_enter Tryd.func7, Tryd.ntmps7
    go_upto_region 3 with (first | ((with_reducible refine gate_callee (f := 8) rfl ?_); refine goesL_ (some 12) rfl rfl Tryd.func8 (by kernel_rfl) rfl #[] rfl (by (try simp only [List.map_toArray, List.map_cons, List.map_nil]); first | done | rfl | (simp only [List.length_drop, List.length_take]; rfl)) ?_; (with_reducible refine (calepinlaw02_first.calls  true _ A3.out (PF.tabs_below HT.out (by repeat (first | (with_reducible first | exact HB.out | apply below_alloc | apply pw_below_drewN | apply below_drew1) | exact HB.out)))).mono ?_); rintro e w6 ⟨rfl, hb⟩; refine ⟨_, rfl, ?_⟩; have n0_ := Aside0.mk (below_step (by repeat (first | (with_reducible first | exact HB.out | apply below_alloc | apply pw_below_drewN | apply below_drew1) | exact HB.out)) hb); clear HB; have HB := n0_; clear n0_; (try clear hb); (try clear hb2); (try clear hk); (try clear hi)))
    (try simp only [Act.put, List.setIfInBounds_toArray, List.set_cons_zero, List.set_cons_succ])
    go_cut [21] (fun v21 wc => ∃ (kq : Nat) (x21_4 : Bool), v21 = .bool x21_4 ∧ Aside0 (calepinlaw02_FoldBlanks.j0 kq a0 l1 x21_4 = some r) ∧ Aside0 (kq ≤ k) ∧ Aside0 (Below w.heap.size w wc))
    case first =>
      have H := HC5.out
      clear HC5
      replace H := Option.bind_eq_some_iff.mp H
      obtain ⟨t162, A70, H⟩ := H
      replace H : (if t162 = true then (calepinlaw02_FoldBlanks.j0 k a0 l1 (decide ((a0.size : Int) > 2000))) else (calepinlaw02_FoldBlanks.j0 k a0 l1 true)) = some r := H
      have A7 := Aside0.mk A70
      clear A70
      by_cases c8 : t162 = true
      · subst c8
        have H1 : (calepinlaw02_FoldBlanks.j0 k a0 l1 (decide ((a0.size : Int) > 2000))) = some r := by rw [if_pos rfl] at H; exact H
        clear H
        have H := H1
        clear H1
        have H' := Aside0.mk H
        clear H
        go_wp2_with (first | ((with_reducible refine gate_callee (f := 15) rfl ?_); refine goesL_ (some 15) rfl rfl Tryd.func15 (by kernel_rfl) rfl #[.string a0] rfl (by (try simp only [List.map_toArray, List.map_cons, List.map_nil]); first | done | rfl | (simp only [List.length_drop, List.length_take]; rfl)) ?_; (with_reducible refine (fold_Good.calls a0 true _ A7.out).mono ?_); rintro e w9 ⟨rfl, hb⟩; refine ⟨_, rfl, ?_⟩; have n0_ := Aside0.mk (below_step (by repeat (first | (with_reducible first | exact HB.out | apply below_alloc | apply pw_below_drewN | apply below_drew1) | exact HB.out)) hb); clear HB; have HB := n0_; clear n0_; (try clear hb); (try clear hb2); (try clear hk); (try clear hi)))
        go_meet
        case rel => exact ⟨_, (decide ((a0.size : Int) > 2000)), (by first | rfl | (simp; done) | (simp [*]; done)), H', ⟨by first | omega | exact Nat.le_refl _⟩, ⟨by repeat (first | (with_reducible first | exact HB.out | apply below_alloc | apply pw_below_drewN | apply below_drew1) | exact HB.out)⟩⟩
      · replace c8 := Bool.eq_false_iff.mpr c8
        subst c8
        have H1 : (calepinlaw02_FoldBlanks.j0 k a0 l1 true) = some r := by rw [if_neg (show ¬ (false = true) by decide)] at H; exact H
        clear H
        have H := H1
        clear H1
        have H' := Aside0.mk H
        clear H
        go_wp2_with (first | ((with_reducible refine gate_callee (f := 15) rfl ?_); refine goesL_ (some 15) rfl rfl Tryd.func15 (by kernel_rfl) rfl #[.string a0] rfl (by (try simp only [List.map_toArray, List.map_cons, List.map_nil]); first | done | rfl | (simp only [List.length_drop, List.length_take]; rfl)) ?_; (with_reducible refine (fold_Good.calls a0 false _ A7.out).mono ?_); rintro e w10 ⟨rfl, hb⟩; refine ⟨_, rfl, ?_⟩; have n0_ := Aside0.mk (below_step (by repeat (first | (with_reducible first | exact HB.out | apply below_alloc | apply pw_below_drewN | apply below_drew1) | exact HB.out)) hb); clear HB; have HB := n0_; clear n0_; (try clear hb); (try clear hb2); (try clear hk); (try clear hi)))
        go_meet
        case rel => exact ⟨_, (true), (by first | rfl | (simp; done) | (simp [*]; done)), H', ⟨by first | omega | exact Nat.le_refl _⟩, ⟨by repeat (first | (with_reducible first | exact HB.out | apply below_alloc | apply pw_below_drewN | apply below_drew1) | exact HB.out)⟩⟩
    case rest =>
      clear HC5
      try clear c1
      try clear p2
      try clear c4
      try clear c7
      try clear c8
      obtain ⟨kq, x21_4, rfl, HA, HJ4, HB⟩ := hcut
      cases kq with
      | zero => exact absurd HA.out (by simp [calepinlaw02_FoldBlanks.j0])
      | succ kj4 =>
        have H := HA.out
        clear HA
        simp only [calepinlaw02_FoldBlanks.j0] at H
        by_cases c11 : x21_4 = true
        · subst c11
          have H1 : (some true) = some r := by rw [if_pos rfl] at H; exact H
          clear H
          have H := H1
          clear H1
          obtain rfl := Option.some.inj H
          go_wp2
          go_ret
          exact ⟨by first | rfl | (simp [errW_none, errW_some] <;> rfl) | (simp [*, errW_none, errW_some] <;> rfl), by repeat (first | (with_reducible first | exact HB.out | apply below_alloc | apply pw_below_drewN | apply below_drew1) | exact HB.out)⟩
        · replace c11 := Bool.eq_false_iff.mpr c11
          subst c11
          have H1 : (calepinlaw02_FoldBlanks.l0 kj4 a0 (⟨#[]⟩ : ByteArray) 0 l1 (l1.length : Int) 0) = some r := by rw [if_neg (show ¬ (false = true) by decide)] at H; exact H
          clear H
          have H := H1
          clear H1
          have H' := Aside0.mk H
          clear H
          go_wp2
          go_loopg [5, 6, 24] kj4 (fun kq v5 v6 v24 w' => ∃ (x5_2 : ByteArray) (x6_2 : Int) (x24_2 : Int), v5 = .string x5_2 ∧ v6 = .int .i64 x6_2 ∧ v24 = .int .i64 x24_2 ∧ Aside0 (calepinlaw02_FoldBlanks.l0 kq a0 x5_2 x6_2 l1 (l1.length : Int) x24_2 = some r) ∧ Aside0 (kq ≤ kj4) ∧ Aside0 (Below w.heap.size w w'))
          case atStart => exact ⟨((⟨#[]⟩ : ByteArray)), (0), (0), (by first | rfl | (simp; done) | (simp [*]; done)), (by first | rfl | (simp; done) | (simp [*]; done)), (by first | rfl | (simp; done) | (simp [*]; done)), H', ⟨Nat.le_refl _⟩, ⟨by repeat (first | (with_reducible first | exact HB.out | apply below_alloc | apply pw_below_drewN | apply below_drew1) | exact HB.out)⟩⟩
          case round =>
            clear H'
            try clear c1
            try clear p2
            try clear c4
            try clear c7
            try clear c8
            try clear c11
            try clear p2
            obtain ⟨x5_2, x6_2, x24_2, rfl, rfl, rfl, HA, HK2, HB⟩ := hrel
            cases gk with
            | zero => exact absurd HA.out (by simp [calepinlaw02_FoldBlanks.l0])
            | succ k2 =>
              have H := HA.out
              clear HA
              simp only [calepinlaw02_FoldBlanks.l0] at H
              obtain ⟨ke, hke⟩ : ∃ ke, wrap64 (x6_2 + (wrap64 (1 + (wrap64 (Int.tmod (IntKind.u64.wrap (rd l1 x24_2)) 7))))) = ke := ⟨_, rfl⟩
              obtain ⟨ee, hee⟩ : ∃ ee, a0.extract (x6_2 : Int).toNat a0.size = ee := ⟨_, rfl⟩
              obtain ⟨ff, hff⟩ : ∃ ff, ee ++ (⟨#[10]⟩ : ByteArray) = ff := ⟨_, rfl⟩
              obtain ⟨pp, hpp⟩ : ∃ pp, a0.extract (x6_2 : Int).toNat (ke : Int).toNat = pp := ⟨_, rfl⟩
              simp only [hke, hee, hff, hpp] at H
              by_cases c12 : x24_2 < (l1.length : Int)
              · rw [if_pos c12] at H
                have c12b0 : decide (x24_2 < (l1.length : Int)) = true := decide_eq_true c12
                clear c12
                by_cases c13 : 0 ≤ x24_2
                · rw [if_pos c13] at H
                  have c13b0 : decide (0 ≤ x24_2) = true := decide_eq_true c13
                  clear c13
                  by_cases c14 : x24_2 < (l1.length : Int)
                  · rw [if_pos c14] at H
                    have c14b0 : decide (x24_2 < (l1.length : Int)) = true := decide_eq_true c14
                    clear c14
                    by_cases c15 : x24_2 ≥ 20
                    · rw [if_pos c15] at H
                      have c15b0 : decide (20 ≤ x24_2) = true := decide_eq_true c15
                      clear c15
                      by_cases c16 : 0 ≤ x6_2
                      · rw [if_pos c16] at H
                        have c16b0 := eq_true c16
                        have c16b1 : decide (0 ≤ x6_2) = true := decide_eq_true c16
                        clear c16
                        by_cases c17 : x6_2 ≤ (a0.size : Int)
                        · rw [if_pos c17] at H
                          have c17b0 := eq_true c17
                          have c17b1 : decide (x6_2 ≤ (a0.size : Int)) = true := decide_eq_true c17
                          clear c17
                          by_cases c18 : ee.size + 1 ≤ 9223372036854775807
                          · rw [if_pos c18] at H
                            have c18b0 := eq_true c18
                            have c18b1 : decide (ee.size + 1 ≤ 9223372036854775807) = true := decide_eq_true c18
                            try have c18b2 : (9223372036854775807 < ee.size + 1) = False := eq_false (Nat.not_lt.2 c18)
                            by_cases c19 : x5_2.size + ff.size ≤ 9223372036854775807
                            · rw [if_pos c19] at H
                              have c19b0 := eq_true c19
                              have c19b1 : decide (x5_2.size + ff.size ≤ 9223372036854775807) = true := decide_eq_true c19
                              try have c19b2 : (9223372036854775807 < x5_2.size + ff.size) = False := eq_false (Nat.not_lt.2 c19)
                              replace H := Option.bind_eq_some_iff.mp H
                              obtain ⟨⟨t164, t165⟩, A200, H⟩ := H
                              replace H : (if t165 = 0 then (if (t164.length : Int) = 1 then (if 0 < (t164.length : Int) then (some ((rdOf ByteArray.empty t164 0).toList == a0.toList)) else (none)) else (some false)) else (some false)) = some r := H
                              have A20 := Aside0.mk A200
                              clear A200
                              by_cases c21 : t165 = 0
                              · rw [if_pos c21] at H
                                have c21b0 : (t165 == 0) = true := beq_iff_eq.mpr c21
                                have c21b1 : (t165 != 0) = false := bne_eq_false_iff_eq.mpr c21
                                clear c21
                                by_cases c22 : (t164.length : Int) = 1
                                · rw [if_pos c22] at H
                                  have c22b0 : ((t164.length : Int) == 1) = true := beq_iff_eq.mpr c22
                                  have c22b1 : ((t164.length : Int) != 1) = false := bne_eq_false_iff_eq.mpr c22
                                  clear c22
                                  by_cases c23 : 0 < (t164.length : Int)
                                  · rw [if_pos c23] at H
                                    have c23b0 : decide (0 < (t164.length : Int)) = true := decide_eq_true c23
                                    have c23b1 : decide (0 < t164.length) = true := decide_eq_true (by omega)
                                    clear c23
                                    obtain rfl := Option.some.inj H
                                    have p163 : 0 ≤ (x24_2 : Int) := of_decide_eq_true (by first | (with_reducible assumption) | assumption)
                                    have q163 : x24_2 < (l1.length : Int) := of_decide_eq_true (by first | (with_reducible assumption) | assumption)
                                    obtain ⟨ad163, e163, hx163_0⟩ := Kd.at_int HR1.out x24_2 p163 q163
                                    cases e163
                                    replace hx163_0 := (HB.out.cell (World.block_lt_of_cell? w _ hx163_0)).trans hx163_0
                                    replace p163 := eq_true p163
                                    replace q163 := eq_true q163
                                    go_wp2_with (first | ((with_reducible refine gate_callee (f := 9) rfl ?_); refine goesL_ (some 72) rfl rfl Tryd.func9 (by kernel_rfl) rfl #[.string (x5_2 ++ ff)] rfl (by (try simp only [List.map_toArray, List.map_cons, List.map_nil]); first | done | rfl | (simp only [List.length_drop, List.length_take]; rfl)) ?_; (with_reducible refine (fold_Unfold.calls (x5_2 ++ ff) t164 t165 _ A20.out).mono ?_); rintro e w24 ⟨v166, rfl, ho0, hb⟩; refine ⟨_, rfl, ?_⟩; have n0_ := Aside0.mk (Kd.R_lower ho0 (below_size (by repeat (first | (with_reducible first | exact HB.out | apply below_alloc | apply pw_below_drewN | apply below_drew1) | exact HB.out)))); have n1_ := Aside0.mk (below_step (by repeat (first | (with_reducible first | exact HB.out | apply below_alloc | apply pw_below_drewN | apply below_drew1) | exact HB.out)) hb); clear HB; have HO167 := n0_; have HB := n1_; clear n0_ n1_; (try clear hb); (try clear hb2); (try clear hk); (try clear hi); (try clear ho0); obtain ⟨Ao25, co25, eo25⟩ := Kd.R_slice HO167.out; subst eo25; have p168 : 0 ≤ (0 : Int) := (by omega); have q168 : 0 < (t164.length : Int) := of_decide_eq_true (by first | (with_reducible assumption) | assumption); obtain ⟨ad168, e168, hx168_0⟩ := Kd.at_string (Kd.R_reads' HO167.out).2.2 0 p168 q168; cases e168; have qi168 : (0 < t164.length) = True := eq_true (by omega); (try rw [show ((0 : Int)).toNat = 0 from rfl] at hx168_0); (try rw [Addr.add_zero'] at hx168_0); replace p168 := eq_true p168; replace q168 := eq_true q168))
                                    go_ret
                                    exact ⟨by first | rfl | (simp [errW_none, errW_some] <;> rfl) | (simp [*, errW_none, errW_some] <;> rfl), by repeat (first | (with_reducible first | exact HB.out | apply below_alloc | apply pw_below_drewN | apply below_drew1) | exact HB.out)⟩
                                  · rw [if_neg c23] at H
                                    exact absurd H (by simp)
                                · rw [if_neg c22] at H
                                  have c22b0 : ((t164.length : Int) == 1) = false := beq_eq_false_iff_ne.mpr c22
                                  have c22b1 : ((t164.length : Int) != 1) = true := bne_iff_ne.mpr c22
                                  obtain rfl := Option.some.inj H
                                  have p163 : 0 ≤ (x24_2 : Int) := of_decide_eq_true (by first | (with_reducible assumption) | assumption)
                                  have q163 : x24_2 < (l1.length : Int) := of_decide_eq_true (by first | (with_reducible assumption) | assumption)
                                  obtain ⟨ad163, e163, hx163_0⟩ := Kd.at_int HR1.out x24_2 p163 q163
                                  cases e163
                                  replace hx163_0 := (HB.out.cell (World.block_lt_of_cell? w _ hx163_0)).trans hx163_0
                                  replace p163 := eq_true p163
                                  replace q163 := eq_true q163
                                  go_wp2_with (first | ((with_reducible refine gate_callee (f := 9) rfl ?_); refine goesL_ (some 72) rfl rfl Tryd.func9 (by kernel_rfl) rfl #[.string (x5_2 ++ ff)] rfl (by (try simp only [List.map_toArray, List.map_cons, List.map_nil]); first | done | rfl | (simp only [List.length_drop, List.length_take]; rfl)) ?_; (with_reducible refine (fold_Unfold.calls (x5_2 ++ ff) t164 t165 _ A20.out).mono ?_); rintro e w26 ⟨v166, rfl, ho0, hb⟩; refine ⟨_, rfl, ?_⟩; have n0_ := Aside0.mk (Kd.R_lower ho0 (below_size (by repeat (first | (with_reducible first | exact HB.out | apply below_alloc | apply pw_below_drewN | apply below_drew1) | exact HB.out)))); have n1_ := Aside0.mk (below_step (by repeat (first | (with_reducible first | exact HB.out | apply below_alloc | apply pw_below_drewN | apply below_drew1) | exact HB.out)) hb); clear HB; have HO167 := n0_; have HB := n1_; clear n0_ n1_; (try clear hb); (try clear hb2); (try clear hk); (try clear hi); (try clear ho0); obtain ⟨Ao27, co27, eo27⟩ := Kd.R_slice HO167.out; subst eo27))
                                  go_ret
                                  exact ⟨by first | rfl | (simp [errW_none, errW_some] <;> rfl) | (simp [*, errW_none, errW_some] <;> rfl), by repeat (first | (with_reducible first | exact HB.out | apply below_alloc | apply pw_below_drewN | apply below_drew1) | exact HB.out)⟩
                              · rw [if_neg c21] at H
                                have c21b0 : (t165 == 0) = false := beq_eq_false_iff_ne.mpr c21
                                have c21b1 : (t165 != 0) = true := bne_iff_ne.mpr c21
                                obtain rfl := Option.some.inj H
                                have p163 : 0 ≤ (x24_2 : Int) := of_decide_eq_true (by first | (with_reducible assumption) | assumption)
                                have q163 : x24_2 < (l1.length : Int) := of_decide_eq_true (by first | (with_reducible assumption) | assumption)
                                obtain ⟨ad163, e163, hx163_0⟩ := Kd.at_int HR1.out x24_2 p163 q163
                                cases e163
                                replace hx163_0 := (HB.out.cell (World.block_lt_of_cell? w _ hx163_0)).trans hx163_0
                                replace p163 := eq_true p163
                                replace q163 := eq_true q163
                                go_wp2_with (first | ((with_reducible refine gate_callee (f := 9) rfl ?_); refine goesL_ (some 72) rfl rfl Tryd.func9 (by kernel_rfl) rfl #[.string (x5_2 ++ ff)] rfl (by (try simp only [List.map_toArray, List.map_cons, List.map_nil]); first | done | rfl | (simp only [List.length_drop, List.length_take]; rfl)) ?_; (with_reducible refine (fold_Unfold.calls (x5_2 ++ ff) t164 t165 _ A20.out).mono ?_); rintro e w28 ⟨v166, rfl, ho0, hb⟩; refine ⟨_, rfl, ?_⟩; have n0_ := Aside0.mk (Kd.R_lower ho0 (below_size (by repeat (first | (with_reducible first | exact HB.out | apply below_alloc | apply pw_below_drewN | apply below_drew1) | exact HB.out)))); have n1_ := Aside0.mk (below_step (by repeat (first | (with_reducible first | exact HB.out | apply below_alloc | apply pw_below_drewN | apply below_drew1) | exact HB.out)) hb); clear HB; have HO167 := n0_; have HB := n1_; clear n0_ n1_; (try clear hb); (try clear hb2); (try clear hk); (try clear hi); (try clear ho0)))
                                go_ret
                                exact ⟨by first | rfl | (simp [errW_none, errW_some] <;> rfl) | (simp [*, errW_none, errW_some] <;> rfl), by repeat (first | (with_reducible first | exact HB.out | apply below_alloc | apply pw_below_drewN | apply below_drew1) | exact HB.out)⟩
                            · rw [if_neg c19] at H
                              exact absurd H (by simp)
                          · rw [if_neg c18] at H
                            exact absurd H (by simp)
                        · rw [if_neg c17] at H
                          exact absurd H (by simp)
                      · rw [if_neg c16] at H
                        exact absurd H (by simp)
                    · rw [if_neg c15] at H
                      have c15b0 : decide (20 ≤ x24_2) = false := decide_eq_false c15
                      clear c15
                      by_cases c29 : ke ≥ (a0.size : Int)
                      · rw [if_pos c29] at H
                        have c29b0 : decide ((a0.size : Int) ≤ ke) = true := decide_eq_true c29
                        clear c29
                        by_cases c30 : 0 ≤ x6_2
                        · rw [if_pos c30] at H
                          have c30b0 := eq_true c30
                          have c30b1 : decide (0 ≤ x6_2) = true := decide_eq_true c30
                          clear c30
                          by_cases c31 : x6_2 ≤ (a0.size : Int)
                          · rw [if_pos c31] at H
                            have c31b0 := eq_true c31
                            have c31b1 : decide (x6_2 ≤ (a0.size : Int)) = true := decide_eq_true c31
                            clear c31
                            by_cases c32 : ee.size + 1 ≤ 9223372036854775807
                            · rw [if_pos c32] at H
                              have c32b0 := eq_true c32
                              have c32b1 : decide (ee.size + 1 ≤ 9223372036854775807) = true := decide_eq_true c32
                              try have c32b2 : (9223372036854775807 < ee.size + 1) = False := eq_false (Nat.not_lt.2 c32)
                              by_cases c33 : x5_2.size + ff.size ≤ 9223372036854775807
                              · rw [if_pos c33] at H
                                have c33b0 := eq_true c33
                                have c33b1 : decide (x5_2.size + ff.size ≤ 9223372036854775807) = true := decide_eq_true c33
                                try have c33b2 : (9223372036854775807 < x5_2.size + ff.size) = False := eq_false (Nat.not_lt.2 c33)
                                replace H := Option.bind_eq_some_iff.mp H
                                obtain ⟨⟨t169, t170⟩, A340, H⟩ := H
                                replace H : (if t170 = 0 then (if (t169.length : Int) = 1 then (if 0 < (t169.length : Int) then (some ((rdOf ByteArray.empty t169 0).toList == a0.toList)) else (none)) else (some false)) else (some false)) = some r := H
                                have A34 := Aside0.mk A340
                                clear A340
                                by_cases c35 : t170 = 0
                                · rw [if_pos c35] at H
                                  have c35b0 : (t170 == 0) = true := beq_iff_eq.mpr c35
                                  have c35b1 : (t170 != 0) = false := bne_eq_false_iff_eq.mpr c35
                                  clear c35
                                  by_cases c36 : (t169.length : Int) = 1
                                  · rw [if_pos c36] at H
                                    have c36b0 : ((t169.length : Int) == 1) = true := beq_iff_eq.mpr c36
                                    have c36b1 : ((t169.length : Int) != 1) = false := bne_eq_false_iff_eq.mpr c36
                                    clear c36
                                    by_cases c37 : 0 < (t169.length : Int)
                                    · rw [if_pos c37] at H
                                      have c37b0 : decide (0 < (t169.length : Int)) = true := decide_eq_true c37
                                      have c37b1 : decide (0 < t169.length) = true := decide_eq_true (by omega)
                                      clear c37
                                      obtain rfl := Option.some.inj H
                                      have p163 : 0 ≤ (x24_2 : Int) := of_decide_eq_true (by first | (with_reducible assumption) | assumption)
                                      have q163 : x24_2 < (l1.length : Int) := of_decide_eq_true (by first | (with_reducible assumption) | assumption)
                                      obtain ⟨ad163, e163, hx163_0⟩ := Kd.at_int HR1.out x24_2 p163 q163
                                      cases e163
                                      replace hx163_0 := (HB.out.cell (World.block_lt_of_cell? w _ hx163_0)).trans hx163_0
                                      replace p163 := eq_true p163
                                      replace q163 := eq_true q163
                                      go_wp2_with (first | ((with_reducible refine gate_callee (f := 9) rfl ?_); refine goesL_ (some 72) rfl rfl Tryd.func9 (by kernel_rfl) rfl #[.string (x5_2 ++ ff)] rfl (by (try simp only [List.map_toArray, List.map_cons, List.map_nil]); first | done | rfl | (simp only [List.length_drop, List.length_take]; rfl)) ?_; (with_reducible refine (fold_Unfold.calls (x5_2 ++ ff) t169 t170 _ A34.out).mono ?_); rintro e w38 ⟨v171, rfl, ho0, hb⟩; refine ⟨_, rfl, ?_⟩; have n0_ := Aside0.mk (Kd.R_lower ho0 (below_size (by repeat (first | (with_reducible first | exact HB.out | apply below_alloc | apply pw_below_drewN | apply below_drew1) | exact HB.out)))); have n1_ := Aside0.mk (below_step (by repeat (first | (with_reducible first | exact HB.out | apply below_alloc | apply pw_below_drewN | apply below_drew1) | exact HB.out)) hb); clear HB; have HO172 := n0_; have HB := n1_; clear n0_ n1_; (try clear hb); (try clear hb2); (try clear hk); (try clear hi); (try clear ho0); obtain ⟨Ao39, co39, eo39⟩ := Kd.R_slice HO172.out; subst eo39; have p173 : 0 ≤ (0 : Int) := (by omega); have q173 : 0 < (t169.length : Int) := of_decide_eq_true (by first | (with_reducible assumption) | assumption); obtain ⟨ad173, e173, hx173_0⟩ := Kd.at_string (Kd.R_reads' HO172.out).2.2 0 p173 q173; cases e173; have qi173 : (0 < t169.length) = True := eq_true (by omega); (try rw [show ((0 : Int)).toNat = 0 from rfl] at hx173_0); (try rw [Addr.add_zero'] at hx173_0); replace p173 := eq_true p173; replace q173 := eq_true q173))
                                      go_ret
                                      exact ⟨by first | rfl | (simp [errW_none, errW_some] <;> rfl) | (simp [*, errW_none, errW_some] <;> rfl), by repeat (first | (with_reducible first | exact HB.out | apply below_alloc | apply pw_below_drewN | apply below_drew1) | exact HB.out)⟩
                                    · rw [if_neg c37] at H
                                      exact absurd H (by simp)
                                  · rw [if_neg c36] at H
                                    have c36b0 : ((t169.length : Int) == 1) = false := beq_eq_false_iff_ne.mpr c36
                                    have c36b1 : ((t169.length : Int) != 1) = true := bne_iff_ne.mpr c36
                                    obtain rfl := Option.some.inj H
                                    have p163 : 0 ≤ (x24_2 : Int) := of_decide_eq_true (by first | (with_reducible assumption) | assumption)
                                    have q163 : x24_2 < (l1.length : Int) := of_decide_eq_true (by first | (with_reducible assumption) | assumption)
                                    obtain ⟨ad163, e163, hx163_0⟩ := Kd.at_int HR1.out x24_2 p163 q163
                                    cases e163
                                    replace hx163_0 := (HB.out.cell (World.block_lt_of_cell? w _ hx163_0)).trans hx163_0
                                    replace p163 := eq_true p163
                                    replace q163 := eq_true q163
                                    go_wp2_with (first | ((with_reducible refine gate_callee (f := 9) rfl ?_); refine goesL_ (some 72) rfl rfl Tryd.func9 (by kernel_rfl) rfl #[.string (x5_2 ++ ff)] rfl (by (try simp only [List.map_toArray, List.map_cons, List.map_nil]); first | done | rfl | (simp only [List.length_drop, List.length_take]; rfl)) ?_; (with_reducible refine (fold_Unfold.calls (x5_2 ++ ff) t169 t170 _ A34.out).mono ?_); rintro e w40 ⟨v171, rfl, ho0, hb⟩; refine ⟨_, rfl, ?_⟩; have n0_ := Aside0.mk (Kd.R_lower ho0 (below_size (by repeat (first | (with_reducible first | exact HB.out | apply below_alloc | apply pw_below_drewN | apply below_drew1) | exact HB.out)))); have n1_ := Aside0.mk (below_step (by repeat (first | (with_reducible first | exact HB.out | apply below_alloc | apply pw_below_drewN | apply below_drew1) | exact HB.out)) hb); clear HB; have HO172 := n0_; have HB := n1_; clear n0_ n1_; (try clear hb); (try clear hb2); (try clear hk); (try clear hi); (try clear ho0); obtain ⟨Ao41, co41, eo41⟩ := Kd.R_slice HO172.out; subst eo41))
                                    go_ret
                                    exact ⟨by first | rfl | (simp [errW_none, errW_some] <;> rfl) | (simp [*, errW_none, errW_some] <;> rfl), by repeat (first | (with_reducible first | exact HB.out | apply below_alloc | apply pw_below_drewN | apply below_drew1) | exact HB.out)⟩
                                · rw [if_neg c35] at H
                                  have c35b0 : (t170 == 0) = false := beq_eq_false_iff_ne.mpr c35
                                  have c35b1 : (t170 != 0) = true := bne_iff_ne.mpr c35
                                  obtain rfl := Option.some.inj H
                                  have p163 : 0 ≤ (x24_2 : Int) := of_decide_eq_true (by first | (with_reducible assumption) | assumption)
                                  have q163 : x24_2 < (l1.length : Int) := of_decide_eq_true (by first | (with_reducible assumption) | assumption)
                                  obtain ⟨ad163, e163, hx163_0⟩ := Kd.at_int HR1.out x24_2 p163 q163
                                  cases e163
                                  replace hx163_0 := (HB.out.cell (World.block_lt_of_cell? w _ hx163_0)).trans hx163_0
                                  replace p163 := eq_true p163
                                  replace q163 := eq_true q163
                                  go_wp2_with (first | ((with_reducible refine gate_callee (f := 9) rfl ?_); refine goesL_ (some 72) rfl rfl Tryd.func9 (by kernel_rfl) rfl #[.string (x5_2 ++ ff)] rfl (by (try simp only [List.map_toArray, List.map_cons, List.map_nil]); first | done | rfl | (simp only [List.length_drop, List.length_take]; rfl)) ?_; (with_reducible refine (fold_Unfold.calls (x5_2 ++ ff) t169 t170 _ A34.out).mono ?_); rintro e w42 ⟨v171, rfl, ho0, hb⟩; refine ⟨_, rfl, ?_⟩; have n0_ := Aside0.mk (Kd.R_lower ho0 (below_size (by repeat (first | (with_reducible first | exact HB.out | apply below_alloc | apply pw_below_drewN | apply below_drew1) | exact HB.out)))); have n1_ := Aside0.mk (below_step (by repeat (first | (with_reducible first | exact HB.out | apply below_alloc | apply pw_below_drewN | apply below_drew1) | exact HB.out)) hb); clear HB; have HO172 := n0_; have HB := n1_; clear n0_ n1_; (try clear hb); (try clear hb2); (try clear hk); (try clear hi); (try clear ho0)))
                                  go_ret
                                  exact ⟨by first | rfl | (simp [errW_none, errW_some] <;> rfl) | (simp [*, errW_none, errW_some] <;> rfl), by repeat (first | (with_reducible first | exact HB.out | apply below_alloc | apply pw_below_drewN | apply below_drew1) | exact HB.out)⟩
                              · rw [if_neg c33] at H
                                exact absurd H (by simp)
                            · rw [if_neg c32] at H
                              exact absurd H (by simp)
                          · rw [if_neg c31] at H
                            exact absurd H (by simp)
                        · rw [if_neg c30] at H
                          exact absurd H (by simp)
                      · rw [if_neg c29] at H
                        have c29b0 : decide ((a0.size : Int) ≤ ke) = false := decide_eq_false c29
                        clear c29
                        by_cases c43 : 0 ≤ x6_2
                        · rw [if_pos c43] at H
                          have c43b0 := eq_true c43
                          have c43b1 : decide (0 ≤ x6_2) = true := decide_eq_true c43
                          clear c43
                          by_cases c44 : x6_2 ≤ ke
                          · rw [if_pos c44] at H
                            have c44b0 := eq_true c44
                            have c44b1 : decide (x6_2 ≤ ke) = true := decide_eq_true c44
                            by_cases c45 : ke ≤ (a0.size : Int)
                            · rw [if_pos c45] at H
                              have c45b0 := eq_true c45
                              have c45b1 : decide (ke ≤ (a0.size : Int)) = true := decide_eq_true c45
                              obtain ⟨y174, hy174⟩ : ∃ y_ : List ByteArray, y_ = (([(⟨#[10, 32]⟩ : ByteArray), (⟨#[10, 9]⟩ : ByteArray), (⟨#[13, 10, 32]⟩ : ByteArray), (⟨#[13, 10, 9]⟩ : ByteArray)] : List ByteArray)) := ⟨_, rfl⟩
                              replace H : (if 0 ≤ (Int.tmod (IntKind.u64.wrap (Int.tdiv (IntKind.u64.wrap (rd l1 x24_2)) 7)) 4) then (if (Int.tmod (IntKind.u64.wrap (Int.tdiv (IntKind.u64.wrap (rd l1 x24_2)) 7)) 4) < (y174.length : Int) then (if pp.size + (rdOf ByteArray.empty y174 (Int.tmod (IntKind.u64.wrap (Int.tdiv (IntKind.u64.wrap (rd l1 x24_2)) 7)) 4)).size ≤ 9223372036854775807 then (if x5_2.size + (pp ++ (rdOf ByteArray.empty y174 (Int.tmod (IntKind.u64.wrap (Int.tdiv (IntKind.u64.wrap (rd l1 x24_2)) 7)) 4))).size ≤ 9223372036854775807 then (calepinlaw02_FoldBlanks.l0 k2 a0 (x5_2 ++ (pp ++ (rdOf ByteArray.empty y174 (Int.tmod (IntKind.u64.wrap (Int.tdiv (IntKind.u64.wrap (rd l1 x24_2)) 7)) 4)))) ke l1 (l1.length : Int) (wrap64 (x24_2 + 1))) else (none)) else (none)) else (none)) else (none)) = some r := by first | (rw [hy174]; with_reducible exact H) | (have H2_ := (Option.bind_some _ _).symm.trans H; rw [hy174]; with_reducible exact H2_) | (have H2_ := (Option.bind_some _ _).symm.trans H; with_reducible exact H2_) | with_reducible exact H | (rw [hy174]; exact H) | exact H
                              have Ny174 := Aside0.mk hy174
                              clear hy174
                              obtain ⟨ji46, hji46⟩ : ∃ j_ : Int, (Int.tmod (IntKind.u64.wrap (Int.tdiv (IntKind.u64.wrap (rd l1 x24_2)) 7)) 4) = j_ := ⟨_, rfl⟩
                              replace H : (if 0 ≤ (ji46) then (if (ji46) < (y174.length : Int) then (if pp.size + (rdOf ByteArray.empty y174 (ji46)).size ≤ 9223372036854775807 then (if x5_2.size + (pp ++ (rdOf ByteArray.empty y174 (ji46))).size ≤ 9223372036854775807 then (calepinlaw02_FoldBlanks.l0 k2 a0 (x5_2 ++ (pp ++ (rdOf ByteArray.empty y174 (ji46)))) ke l1 (l1.length : Int) (wrap64 (x24_2 + 1))) else (none)) else (none)) else (none)) else (none)) = some r := by first | (rw [hji46] at H; exact H) | (simp only [hji46] at H ⊢; exact H)
                              by_cases c47 : 0 ≤ (ji46)
                              · rw [if_pos c47] at H
                                have c47b0 : decide (0 ≤ (ji46)) = true := decide_eq_true c47
                                clear c47
                                by_cases c48 : (ji46) < (y174.length : Int)
                                · rw [if_pos c48] at H
                                  have c48b0 : decide ((ji46) < (y174.length : Int)) = true := decide_eq_true c48
                                  clear c48
                                  by_cases c49 : pp.size + (rdOf ByteArray.empty y174 (ji46)).size ≤ 9223372036854775807
                                  · rw [if_pos c49] at H
                                    have c49b0 := eq_true c49
                                    have c49b1 : decide (pp.size + (rdOf ByteArray.empty y174 (ji46)).size ≤ 9223372036854775807) = true := decide_eq_true c49
                                    try have c49b2 : (9223372036854775807 < pp.size + (rdOf ByteArray.empty y174 (ji46)).size) = False := eq_false (Nat.not_lt.2 c49)
                                    by_cases c50 : x5_2.size + (pp ++ (rdOf ByteArray.empty y174 (ji46))).size ≤ 9223372036854775807
                                    · rw [if_pos c50] at H
                                      have c50b0 := eq_true c50
                                      have c50b1 : decide (x5_2.size + (pp ++ (rdOf ByteArray.empty y174 (ji46))).size ≤ 9223372036854775807) = true := decide_eq_true c50
                                      try have c50b2 : (9223372036854775807 < x5_2.size + (pp ++ (rdOf ByteArray.empty y174 (ji46))).size) = False := eq_false (Nat.not_lt.2 c50)
                                      have c50b9 : (9223372036854775807 < x5_2.size + (pp.size + (rdOf ByteArray.empty y174 (ji46)).size)) = False := by
                                        have h_ := c50
                                        rw [ByteArray.size_append] at h_
                                        exact eq_false (Nat.not_lt.2 h_)
                                      have H' := Aside0.mk H
                                      clear H
                                      have p163 : 0 ≤ (x24_2 : Int) := of_decide_eq_true (by first | (with_reducible assumption) | assumption)
                                      have q163 : x24_2 < (l1.length : Int) := of_decide_eq_true (by first | (with_reducible assumption) | assumption)
                                      obtain ⟨ad163, e163, hx163_0⟩ := Kd.at_int HR1.out x24_2 p163 q163
                                      cases e163
                                      replace hx163_0 := (HB.out.cell (World.block_lt_of_cell? w _ hx163_0)).trans hx163_0
                                      replace p163 := eq_true p163
                                      replace q163 := eq_true q163
                                      try go_wp2
                                      have pi177 : (0 ≤ ((ji46) : Int)) = True := eq_true (of_decide_eq_true (by first | (with_reducible assumption) | assumption))
                                      have qi177 : ((ji46) < (y174.length : Int)) = True := eq_true (of_decide_eq_true (by first | (with_reducible assumption) | assumption))
                                      have n0_ := Aside0.mk (below_drew1 HB.out)
                                      clear HB
                                      have HB := n0_
                                      clear n0_
                                      refine start_ (n := 17) (S := fun w' => True) (ds := []) #[false, false, false, false, false, false, false, false, false, false, false, false, false, false, false, false, false] (by kernel_rfl) rfl rfl trivial (fun hHeld => ?_); refine with_tabW calepinlaw02_FoldBlanks.tab11 calepinlaw02_FoldBlanks.bits11 (fun HT_ HW_ => ?_)
                                      generalize wr.drew = w51 at HB hHeld ⊢
                                      refine pure_ (i := 0) (N := some 44) (v := ?_) (a' := ?_) #[true, false, false, false, false, false, false, false, false, false, false, false, false, false, false, false, false] rfl rfl (any_of HT_.out (by kernel_rfl)) (fun _ _ _ h => h) (Or.inl ⟨by rfl, ?_⟩) ?_ ?_
                                      rotate_left
                                      · intro w'
                                        go_simp
                                        with_reducible rfl
                                      rotate_left
                                      · simp only [Act.put, List.setIfInBounds_toArray, List.set_cons_zero, List.set_cons_succ, i64_w, i32_w]
                                        rfl
                                      refine pure_ (i := 1) (N := some 45) (v := ?_) (a' := ?_) #[true, true, false, false, false, false, false, false, false, false, false, false, false, false, false, false, false] rfl rfl (any_of HT_.out (by kernel_rfl)) (fun _ _ _ h => h) (Or.inl ⟨by rfl, ?_⟩) ?_ ?_
                                      rotate_left
                                      · intro w'
                                        go_simp
                                        with_reducible rfl
                                      rotate_left
                                      · simp only [Act.put, List.setIfInBounds_toArray, List.set_cons_zero, List.set_cons_succ, i64_w, i32_w]
                                        rfl
                                      refine pure_ (i := 2) (N := some 46) (v := ?_) (a' := ?_) #[true, true, true, false, false, false, false, false, false, false, false, false, false, false, false, false, false] rfl rfl (any_of HT_.out (by kernel_rfl)) (fun _ _ _ h => h) (Or.inl ⟨by rfl, ?_⟩) ?_ ?_
                                      rotate_left
                                      · intro w'
                                        go_simp
                                        with_reducible rfl
                                      rotate_left
                                      · simp only [Act.put, List.setIfInBounds_toArray, List.set_cons_zero, List.set_cons_succ, i64_w, i32_w]
                                        rfl
                                      refine pure_ (i := 3) (N := some 47) (v := ?_) (a' := ?_) #[true, true, true, true, false, false, false, false, false, false, false, false, false, false, false, false, false] rfl rfl (any_of HT_.out (by kernel_rfl)) (fun _ _ _ h => h) (Or.inl ⟨by rfl, ?_⟩) ?_ ?_
                                      rotate_left
                                      · intro w'
                                        go_simp
                                        with_reducible rfl
                                      rotate_left
                                      · simp only [Act.put, List.setIfInBounds_toArray, List.set_cons_zero, List.set_cons_succ, i64_w, i32_w]
                                        rfl
                                      refine pure_ (i := 4) (N := some 48) (v := ?_) (a' := ?_) #[true, true, true, true, true, false, false, false, false, false, false, false, false, false, false, false, false] rfl rfl (any_of HT_.out (by kernel_rfl)) (fun _ _ _ h => h) (Or.inl ⟨by rfl, ?_⟩) ?_ ?_
                                      rotate_left
                                      · intro w'
                                        go_simp
                                        with_reducible rfl
                                      rotate_left
                                      · simp only [Act.put, List.setIfInBounds_toArray, List.set_cons_zero, List.set_cons_succ, i64_w, i32_w]
                                        rfl
                                      refine pure_ (i := 5) (N := some 49) (v := ?_) (a' := ?_) #[true, true, true, true, true, true, false, false, false, false, false, false, false, false, false, false, false] rfl rfl (any_of HT_.out (by kernel_rfl)) (fun _ _ _ h => h) (Or.inl ⟨by rfl, ?_⟩) ?_ ?_
                                      rotate_left
                                      · intro w'
                                        go_simp
                                        with_reducible rfl
                                      rotate_left
                                      · simp only [Act.put, List.setIfInBounds_toArray, List.set_cons_zero, List.set_cons_succ, i64_w, i32_w]
                                        rfl
                                      refine pure_ (i := 6) (N := some 50) (v := ?_) (a' := ?_) #[true, true, true, true, true, true, true, false, false, false, false, false, false, false, false, false, false] rfl rfl (any_of HT_.out (by kernel_rfl)) (fun _ _ _ h => h) (Or.inl ⟨by rfl, ?_⟩) ?_ ?_
                                      rotate_left
                                      · intro w'
                                        go_simp
                                        with_reducible rfl
                                      rotate_left
                                      · simp only [Act.put, List.setIfInBounds_toArray, List.set_cons_zero, List.set_cons_succ, i64_w, i32_w]
                                        rfl
                                      refine pure_ (i := 8) (N := some 52) (v := ?_) (a' := ?_) #[true, true, true, true, true, true, true, false, true, false, false, false, false, false, false, false, false] rfl rfl (any_of HT_.out (by kernel_rfl)) (fun _ _ _ h => h) (Or.inl ⟨by rfl, ?_⟩) ?_ ?_
                                      rotate_left
                                      · intro w'
                                        go_simp
                                        with_reducible rfl
                                      rotate_left
                                      · simp only [Act.put, List.setIfInBounds_toArray, List.set_cons_zero, List.set_cons_succ, i64_w, i32_w]
                                        rfl
                                      refine pure_ (i := 9) (N := some 53) (v := ?_) (a' := ?_) #[true, true, true, true, true, true, true, false, true, true, false, false, false, false, false, false, false] rfl rfl (any_of HT_.out (by kernel_rfl)) (fun _ _ _ h => h) (Or.inl ⟨by rfl, ?_⟩) ?_ ?_
                                      rotate_left
                                      · intro w'
                                        go_simp
                                        with_reducible rfl
                                      rotate_left
                                      · simp only [Act.put, List.setIfInBounds_toArray, List.set_cons_zero, List.set_cons_succ, i64_w, i32_w]
                                        rfl
                                      refine pure_ (i := 10) (N := some 54) (v := ?_) (a' := ?_) #[true, true, true, true, true, true, true, false, true, true, true, false, false, false, false, false, false] rfl rfl (any_of HT_.out (by kernel_rfl)) (fun _ _ _ h => h) (Or.inl ⟨by rfl, ?_⟩) ?_ ?_
                                      rotate_left
                                      · intro w'
                                        go_simp
                                        with_reducible rfl
                                      rotate_left
                                      · simp only [Act.put, List.setIfInBounds_toArray, List.set_cons_zero, List.set_cons_succ, i64_w, i32_w]
                                        rfl
                                      refine pure_ (i := 11) (N := some 55) (v := ?_) (a' := ?_) #[true, true, true, true, true, true, true, false, true, true, true, true, false, false, false, false, false] rfl rfl (any_of HT_.out (by kernel_rfl)) (fun _ _ _ h => h) (Or.inl ⟨by rfl, ?_⟩) ?_ ?_
                                      rotate_left
                                      · intro w'
                                        go_simp
                                        with_reducible rfl
                                      rotate_left
                                      · simp only [Act.put, List.setIfInBounds_toArray, List.set_cons_zero, List.set_cons_succ, i64_w, i32_w]
                                        rfl
                                      refine one_ (i := 7) (N := some 51) #[true, true, true, true, true, true, true, true, true, true, true, true, false, false, false, false, false] rfl rfl (one_of HT_.out (by kernel_rfl)) (by decide) (fun K hK => ?_)
                                      refine Kd.R_lit_step Kd.string _ 9 ?hg (N := 51) ?hd (xs := ([(⟨#[10, 32]⟩ : ByteArray), (⟨#[10, 9]⟩ : ByteArray), (⟨#[13, 10, 32]⟩ : ByteArray), (⟨#[13, 10, 9]⟩ : ByteArray)] : List ByteArray)) (inner := [.string (⟨#[10, 32]⟩ : ByteArray), .string (⟨#[10, 9]⟩ : ByteArray), .string (⟨#[13, 10, 32]⟩ : ByteArray), .string (⟨#[13, 10, 9]⟩ : ByteArray)]) (ok := fun _ => True) (okp := fun _ => True) ?hr ?hp (fun _ hk => hk) trivial (Below.refl _ _) (Nat.le_refl _) (by simp) ?_; (case hd => rfl); (case hg => rfl); (case hr => first | (go_simp; done) | (go_simp; rfl)); (case hp => exact (Reps.one (show Kd.M Kd.string _ _ _ (⟨#[10, 32]⟩ : ByteArray) [.string (⟨#[10, 32]⟩ : ByteArray)] from rfl) (Reps.one (show Kd.M Kd.string _ _ _ (⟨#[10, 9]⟩ : ByteArray) [.string (⟨#[10, 9]⟩ : ByteArray)] from rfl) (Reps.one (show Kd.M Kd.string _ _ _ (⟨#[13, 10, 32]⟩ : ByteArray) [.string (⟨#[13, 10, 32]⟩ : ByteArray)] from rfl) (Reps.one (show Kd.M Kd.string _ _ _ (⟨#[13, 10, 9]⟩ : ByteArray) [.string (⟨#[13, 10, 9]⟩ : ByteArray)] from rfl) (Reps.none _ _))))))
                                      intro v175 w52 ho53 hb hg_ hnew_
                                      clear hg_ hnew_
                                      (first | rw [← Ny174.out] at ho53 | (simp only [Int.reduceToNat] at ho53; rw [← Ny174.out] at ho53))
                                      have n0_ := Aside0.mk (Kd.R_lower ho53 (below_size (by repeat (first | (with_reducible first | exact HB.out | apply below_alloc | apply pw_below_drewN | apply below_drew1) | exact HB.out))))
                                      have n1_ := Aside0.mk (below_step (by repeat (first | (with_reducible first | exact HB.out | apply below_alloc | apply pw_below_drewN | apply below_drew1) | exact HB.out)) hb)
                                      clear HB
                                      have HO176 := n0_
                                      have HB := n1_
                                      clear n0_ n1_
                                      clear hb ho53
                                      obtain ⟨Ao54, co54, eo54⟩ := Kd.R_slice HO176.out
                                      subst eo54
                                      obtain ⟨ado54, fo54, _⟩ := Kd.at_string (Kd.R_reads' HO176.out).2.2 0 (by decide) (by rw [Ny174.out]; simp)
                                      cases fo54
                                      refine hK.out _ _ trivial (fun hHeld => ?_)
                                      clear hK K
                                      refine norm_ (a' := ?_) ?_ ?_
                                      rotate_left
                                      · show Act.put _ (some 51) _ = _
                                        simp only [Act.put, List.setIfInBounds_toArray, List.set_cons_zero, List.set_cons_succ, i64_w, i32_w]
                                        rfl
                                      refine pure_ (i := 12) (N := some 56) (v := ?_) (a' := ?_) #[true, true, true, true, true, true, true, true, true, true, true, true, true, false, false, false, false] rfl rfl (any_of HT_.out (by kernel_rfl)) (fun _ _ _ h => h) (Or.inl ⟨by rfl, ?_⟩) ?_ ?_
                                      rotate_left
                                      · intro w'
                                        go_simp
                                        with_reducible rfl
                                      rotate_left
                                      · simp only [Act.put, List.setIfInBounds_toArray, List.set_cons_zero, List.set_cons_succ, i64_w, i32_w]
                                        rfl
                                      refine one_ (i := 13) (N := some 57) #[true, true, true, true, true, true, true, true, true, true, true, true, true, true, false, false, false] rfl rfl (one_of HT_.out (by kernel_rfl)) (by decide) (fun K hK => ?_)
                                      (have p177 : 0 ≤ ((ji46) : Int) := of_decide_eq_true (by first | (with_reducible assumption) | assumption); have q177 : (ji46) < (y174.length : Int) := of_decide_eq_true (by first | (with_reducible assumption) | assumption); obtain ⟨ad177, e177, hx177_0⟩ := Kd.at_string (Kd.R_reads' HO176.out).2.2 (ji46) p177 q177; obtain rfl : ado54 = ad177 := (by injection e177))
                                      refine value_ (w1 := ?_) (v := ?_) (by rfl) rfl ?_ ?_
                                      rotate_left 2
                                      · go_simp
                                        constructor
                                        · rfl
                                        · rfl
                                      clear hx177_0
                                      refine hK.out _ _ trivial (fun hHeld => ?_)
                                      clear hK K
                                      refine norm_ (a' := ?_) ?_ ?_
                                      rotate_left
                                      · show Act.put _ (some 57) _ = _
                                        simp only [Act.put, List.setIfInBounds_toArray, List.set_cons_zero, List.set_cons_succ, i64_w, i32_w]
                                        rfl
                                      refine pure_ (i := 14) (N := some 58) (v := ?_) (a' := ?_) #[true, true, true, true, true, true, true, true, true, true, true, true, true, true, true, false, false] rfl rfl (any_of HT_.out (by kernel_rfl)) (fun _ _ _ h => h) (Or.inl ⟨by rfl, ?_⟩) ?_ ?_
                                      rotate_left
                                      · intro w'
                                        go_simp
                                        with_reducible rfl
                                      rotate_left
                                      · simp only [Act.put, List.setIfInBounds_toArray, List.set_cons_zero, List.set_cons_succ, i64_w, i32_w]
                                        rfl
                                      refine pure_ (i := 15) (N := some 59) (v := ?_) (a' := ?_) #[true, true, true, true, true, true, true, true, true, true, true, true, true, true, true, true, false] rfl rfl (any_of HT_.out (by kernel_rfl)) (fun _ _ _ h => h) (Or.inl ⟨by rfl, ?_⟩) ?_ ?_
                                      rotate_left
                                      · intro w'
                                        go_simp
                                        with_reducible rfl
                                      rotate_left
                                      · simp only [Act.put, List.setIfInBounds_toArray, List.set_cons_zero, List.set_cons_succ, i64_w, i32_w]
                                        rfl
                                      refine pure_ (i := 16) (N := some 5) (v := ?_) (a' := ?_) #[true, true, true, true, true, true, true, true, true, true, true, true, true, true, true, true, true] rfl rfl (any_of HT_.out (by kernel_rfl)) (fun _ _ _ h => h) (Or.inl ⟨by rfl, ?_⟩) ?_ ?_
                                      rotate_left
                                      · intro w'
                                        go_simp
                                        with_reducible rfl
                                      rotate_left
                                      · simp only [Act.put, List.setIfInBounds_toArray, List.set_cons_zero, List.set_cons_succ, i64_w, i32_w]
                                        rfl
                                      refine done_ (done_of HT_.out (by kernel_rfl)) ?_
                                      try go_wp2
                                      go_roundg k2
                                      case measure => have := HJ4.out; have := HK2.out; omega
                                      case rel => exact ⟨(x5_2 ++ (pp ++ (rdOf ByteArray.empty y174 (ji46)))), ke, (wrap64 (x24_2 + 1)), (by first | rfl | (simp; done) | (simp only [← hji46] <;> (first | rfl | simp)) | (simp [*]; done)), (by first | rfl | (simp; done) | (simp [*]; done)), (by first | rfl | (simp; done) | (simp [*]; done)), H', ⟨by have := HJ4.out; have := HK2.out; omega⟩, ⟨by repeat (first | (with_reducible first | exact HB.out | apply below_alloc | apply pw_below_drewN | apply below_drew1) | exact HB.out)⟩⟩
                                    · rw [if_neg c50] at H
                                      exact absurd H (by simp)
                                  · rw [if_neg c49] at H
                                    exact absurd H (by simp)
                                · rw [if_neg c48] at H
                                  exact absurd H (by simp)
                              · rw [if_neg c47] at H
                                exact absurd H (by simp)
                            · rw [if_neg c45] at H
                              exact absurd H (by simp)
                          · rw [if_neg c44] at H
                            exact absurd H (by simp)
                        · rw [if_neg c43] at H
                          exact absurd H (by simp)
                  · rw [if_neg c14] at H
                    exact absurd H (by simp)
                · rw [if_neg c13] at H
                  exact absurd H (by simp)
              · rw [if_neg c12] at H
                have c12b0 : decide (x24_2 < (l1.length : Int)) = false := decide_eq_false c12
                clear c12
                by_cases c55 : 0 ≤ x6_2
                · rw [if_pos c55] at H
                  have c55b0 := eq_true c55
                  have c55b1 : decide (0 ≤ x6_2) = true := decide_eq_true c55
                  clear c55
                  by_cases c56 : x6_2 ≤ (a0.size : Int)
                  · rw [if_pos c56] at H
                    have c56b0 := eq_true c56
                    have c56b1 : decide (x6_2 ≤ (a0.size : Int)) = true := decide_eq_true c56
                    clear c56
                    by_cases c57 : ee.size + 1 ≤ 9223372036854775807
                    · rw [if_pos c57] at H
                      have c57b0 := eq_true c57
                      have c57b1 : decide (ee.size + 1 ≤ 9223372036854775807) = true := decide_eq_true c57
                      try have c57b2 : (9223372036854775807 < ee.size + 1) = False := eq_false (Nat.not_lt.2 c57)
                      by_cases c58 : x5_2.size + ff.size ≤ 9223372036854775807
                      · rw [if_pos c58] at H
                        have c58b0 := eq_true c58
                        have c58b1 : decide (x5_2.size + ff.size ≤ 9223372036854775807) = true := decide_eq_true c58
                        try have c58b2 : (9223372036854775807 < x5_2.size + ff.size) = False := eq_false (Nat.not_lt.2 c58)
                        replace H := Option.bind_eq_some_iff.mp H
                        obtain ⟨⟨t178, t179⟩, A590, H⟩ := H
                        replace H : (if t179 = 0 then (if (t178.length : Int) = 1 then (if 0 < (t178.length : Int) then (some ((rdOf ByteArray.empty t178 0).toList == a0.toList)) else (none)) else (some false)) else (some false)) = some r := H
                        have A59 := Aside0.mk A590
                        clear A590
                        by_cases c60 : t179 = 0
                        · rw [if_pos c60] at H
                          have c60b0 : (t179 == 0) = true := beq_iff_eq.mpr c60
                          have c60b1 : (t179 != 0) = false := bne_eq_false_iff_eq.mpr c60
                          clear c60
                          by_cases c61 : (t178.length : Int) = 1
                          · rw [if_pos c61] at H
                            have c61b0 : ((t178.length : Int) == 1) = true := beq_iff_eq.mpr c61
                            have c61b1 : ((t178.length : Int) != 1) = false := bne_eq_false_iff_eq.mpr c61
                            clear c61
                            by_cases c62 : 0 < (t178.length : Int)
                            · rw [if_pos c62] at H
                              have c62b0 : decide (0 < (t178.length : Int)) = true := decide_eq_true c62
                              have c62b1 : decide (0 < t178.length) = true := decide_eq_true (by omega)
                              clear c62
                              obtain rfl := Option.some.inj H
                              go_wp2_with (first | ((with_reducible refine gate_callee (f := 9) rfl ?_); refine goesL_ (some 72) rfl rfl Tryd.func9 (by kernel_rfl) rfl #[.string (x5_2 ++ ff)] rfl (by (try simp only [List.map_toArray, List.map_cons, List.map_nil]); first | done | rfl | (simp only [List.length_drop, List.length_take]; rfl)) ?_; (with_reducible refine (fold_Unfold.calls (x5_2 ++ ff) t178 t179 _ A59.out).mono ?_); rintro e w63 ⟨v180, rfl, ho0, hb⟩; refine ⟨_, rfl, ?_⟩; have n0_ := Aside0.mk (Kd.R_lower ho0 (below_size (by repeat (first | (with_reducible first | exact HB.out | apply below_alloc | apply pw_below_drewN | apply below_drew1) | exact HB.out)))); have n1_ := Aside0.mk (below_step (by repeat (first | (with_reducible first | exact HB.out | apply below_alloc | apply pw_below_drewN | apply below_drew1) | exact HB.out)) hb); clear HB; have HO181 := n0_; have HB := n1_; clear n0_ n1_; (try clear hb); (try clear hb2); (try clear hk); (try clear hi); (try clear ho0); obtain ⟨Ao64, co64, eo64⟩ := Kd.R_slice HO181.out; subst eo64; have p182 : 0 ≤ (0 : Int) := (by omega); have q182 : 0 < (t178.length : Int) := of_decide_eq_true (by first | (with_reducible assumption) | assumption); obtain ⟨ad182, e182, hx182_0⟩ := Kd.at_string (Kd.R_reads' HO181.out).2.2 0 p182 q182; cases e182; have qi182 : (0 < t178.length) = True := eq_true (by omega); (try rw [show ((0 : Int)).toNat = 0 from rfl] at hx182_0); (try rw [Addr.add_zero'] at hx182_0); replace p182 := eq_true p182; replace q182 := eq_true q182))
                              go_ret
                              exact ⟨by first | rfl | (simp [errW_none, errW_some] <;> rfl) | (simp [*, errW_none, errW_some] <;> rfl), by repeat (first | (with_reducible first | exact HB.out | apply below_alloc | apply pw_below_drewN | apply below_drew1) | exact HB.out)⟩
                            · rw [if_neg c62] at H
                              exact absurd H (by simp)
                          · rw [if_neg c61] at H
                            have c61b0 : ((t178.length : Int) == 1) = false := beq_eq_false_iff_ne.mpr c61
                            have c61b1 : ((t178.length : Int) != 1) = true := bne_iff_ne.mpr c61
                            obtain rfl := Option.some.inj H
                            go_wp2_with (first | ((with_reducible refine gate_callee (f := 9) rfl ?_); refine goesL_ (some 72) rfl rfl Tryd.func9 (by kernel_rfl) rfl #[.string (x5_2 ++ ff)] rfl (by (try simp only [List.map_toArray, List.map_cons, List.map_nil]); first | done | rfl | (simp only [List.length_drop, List.length_take]; rfl)) ?_; (with_reducible refine (fold_Unfold.calls (x5_2 ++ ff) t178 t179 _ A59.out).mono ?_); rintro e w65 ⟨v180, rfl, ho0, hb⟩; refine ⟨_, rfl, ?_⟩; have n0_ := Aside0.mk (Kd.R_lower ho0 (below_size (by repeat (first | (with_reducible first | exact HB.out | apply below_alloc | apply pw_below_drewN | apply below_drew1) | exact HB.out)))); have n1_ := Aside0.mk (below_step (by repeat (first | (with_reducible first | exact HB.out | apply below_alloc | apply pw_below_drewN | apply below_drew1) | exact HB.out)) hb); clear HB; have HO181 := n0_; have HB := n1_; clear n0_ n1_; (try clear hb); (try clear hb2); (try clear hk); (try clear hi); (try clear ho0); obtain ⟨Ao66, co66, eo66⟩ := Kd.R_slice HO181.out; subst eo66))
                            go_ret
                            exact ⟨by first | rfl | (simp [errW_none, errW_some] <;> rfl) | (simp [*, errW_none, errW_some] <;> rfl), by repeat (first | (with_reducible first | exact HB.out | apply below_alloc | apply pw_below_drewN | apply below_drew1) | exact HB.out)⟩
                        · rw [if_neg c60] at H
                          have c60b0 : (t179 == 0) = false := beq_eq_false_iff_ne.mpr c60
                          have c60b1 : (t179 != 0) = true := bne_iff_ne.mpr c60
                          obtain rfl := Option.some.inj H
                          go_wp2_with (first | ((with_reducible refine gate_callee (f := 9) rfl ?_); refine goesL_ (some 72) rfl rfl Tryd.func9 (by kernel_rfl) rfl #[.string (x5_2 ++ ff)] rfl (by (try simp only [List.map_toArray, List.map_cons, List.map_nil]); first | done | rfl | (simp only [List.length_drop, List.length_take]; rfl)) ?_; (with_reducible refine (fold_Unfold.calls (x5_2 ++ ff) t178 t179 _ A59.out).mono ?_); rintro e w67 ⟨v180, rfl, ho0, hb⟩; refine ⟨_, rfl, ?_⟩; have n0_ := Aside0.mk (Kd.R_lower ho0 (below_size (by repeat (first | (with_reducible first | exact HB.out | apply below_alloc | apply pw_below_drewN | apply below_drew1) | exact HB.out)))); have n1_ := Aside0.mk (below_step (by repeat (first | (with_reducible first | exact HB.out | apply below_alloc | apply pw_below_drewN | apply below_drew1) | exact HB.out)) hb); clear HB; have HO181 := n0_; have HB := n1_; clear n0_ n1_; (try clear hb); (try clear hb2); (try clear hk); (try clear hi); (try clear ho0)))
                          go_ret
                          exact ⟨by first | rfl | (simp [errW_none, errW_some] <;> rfl) | (simp [*, errW_none, errW_some] <;> rfl), by repeat (first | (with_reducible first | exact HB.out | apply below_alloc | apply pw_below_drewN | apply below_drew1) | exact HB.out)⟩
                      · rw [if_neg c58] at H
                        exact absurd H (by simp)
                    · rw [if_neg c57] at H
                      exact absurd H (by simp)
                  · rw [if_neg c56] at H
                    exact absurd H (by simp)
                · rw [if_neg c55] at H
                  exact absurd H (by simp)
  · replace c4 := Bool.eq_false_iff.mpr c4
    subst c4
    have H1 : (some false) = some r := by rw [if_neg (show ¬ (false = true) by decide)] at H; exact H
    clear H
    have H := H1
    clear H1
    obtain rfl := Option.some.inj H
    go_enter Tryd.func7, Tryd.ntmps7
    go_wp2_with (first | ((with_reducible refine gate_callee (f := 8) rfl ?_); refine goesL_ (some 12) rfl rfl Tryd.func8 (by kernel_rfl) rfl #[] rfl (by (try simp only [List.map_toArray, List.map_cons, List.map_nil]); first | done | rfl | (simp only [List.length_drop, List.length_take]; rfl)) ?_; (with_reducible refine (calepinlaw02_first.calls  false _ A3.out (PF.tabs_below HT.out (by repeat (first | (with_reducible first | exact HB.out | apply below_alloc | apply pw_below_drewN | apply below_drew1) | exact HB.out)))).mono ?_); rintro e w68 ⟨rfl, hb⟩; refine ⟨_, rfl, ?_⟩; have n0_ := Aside0.mk (below_step (by repeat (first | (with_reducible first | exact HB.out | apply below_alloc | apply pw_below_drewN | apply below_drew1) | exact HB.out)) hb); clear HB; have HB := n0_; clear n0_; (try clear hb); (try clear hb2); (try clear hk); (try clear hi)))
    go_ret
    exact ⟨by first | rfl | (simp [errW_none, errW_some] <;> rfl) | (simp [*, errW_none, errW_some] <;> rfl), by repeat (first | (with_reducible first | exact HB.out | apply below_alloc | apply pw_below_drewN | apply below_drew1) | exact HB.out)⟩

/-- THE ONE PURE STATEMENT of calepinlaw02_FoldBlanks: yours. -/
def calepinlaw02_FoldBlanks.Pure : Prop := ∀ (a0 : ByteArray) (l1 : List Int), a0.size ≤ 140737488351232 → l1.length ≤ maxLen → l1.length * 8 ≤ 140737488351232 → (∀ x ∈ l1, (Lit.int .i64 x).wf = true) → ∃ k, calepinlaw02_FoldBlanks.f k a0 l1 = some true
theorem calepinlaw02_FoldBlanks.walk (P : calepinlaw02_FoldBlanks.Pure) (a0 : ByteArray) (a1 : Option Addr) (len1 cap1 : Nat) (z1 : List Int) (w : World) (hT : Lib.Utf8Tabs 1 2 w) (w0 : a0.size ≤ 140737488351232) (w1 : (a1 = none ∧ len1 = 0 ∧ cap1 = 0 ∧ z1 = []) ∨ ∃ x, a1 = some x ∧ len1 ≤ cap1 ∧ cap1 ≤ maxLen ∧ z1.length = cap1 ∧ (∀ i, i < z1.length → w.cell? (x.add i) = some (.int .i64 (z1.getD i 0))) ∧ ∀ n ∈ z1, (Lit.int .i64 n).wf = true) (y1 : len1 * 8 ≤ 140737488351232) :
    Calls Tryd.prog 7 #[.string a0, .slice a1 len1 cap1] w fun e w' => e = .returned (.bool true) ∧ Below w.heap.size w w' := by
  obtain ⟨l1, rfl, hr1, hm1, hw1, hc1⟩ := ReadsInt.ofRowC w1
  obtain ⟨k, h⟩ := P a0 l1 w0 hm1 y1 hw1
  refine (calepinlaw02_FoldBlanks.calls k a0 _ _ l1 true w (Kd.C_of_reads (d := (0 : Int)) (h1 := fun _ => rfl) hr1) hc1 h hT).mono ?_
  rintro e w' ⟨rfl, hd⟩
  exact ⟨rfl, hd⟩

end Go.Proofs.YtkkbkdpfhbjliaaDoor.PL
