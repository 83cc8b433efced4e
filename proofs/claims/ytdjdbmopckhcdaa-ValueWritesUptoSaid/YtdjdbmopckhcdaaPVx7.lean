-- Written for this claim by a program of this session (wip/tools/myprint.py) out of the translation. Not trusted: Lean checks it.
import Derived.Test.YtdjdbmopckhcdaaPVx0
import Derived.Test.YtdjdbmopckhcdaaPVx1
import Derived.Test.YtdjdbmopckhcdaaPVx3
import Derived.Test.YtdjdbmopckhcdaaPVx5
import Derived.Test.YtdjdbmopckhcdaaPVx6
namespace Go.Proofs.Ytdjdbmopckhcdaa.PV
open Go.RowKit Go.Proofs.YtdjdbmopckhcdaaW.PrintWords Go.Proofs.YtdjdbmopckhcdaaW.PrintLast Go.Proofs.YtdjdbmopckhcdaaW.PrintMore
attribute [local go_sem] max2_int min2_int max_two min_two max_three min_three max_four min_four   -- for this text's walks alone
set_option linter.unusedVariables false
set_option linter.unusedSimpArgs false

/-! ### calepinlaw04_ValueWrites: function 7 -/
mutual
def calepinlaw04_ValueWrites.l0 : Nat → List (List ByteArray) → ByteArray → Bool → List (List ByteArray) → Int → Int → Option (Bool)
  | 0, _, _, _, _, _, _ => none
  | k + 1, x0, x3, x4, x22, x23, x24 => if x24 < x23 then (if 0 ≤ x24 then (if x24 < (x22.length : Int) then (if x24 > 0 then (if x3.size + 1 ≤ 9223372036854775807 then (calepinlaw04_ValueWrites.j1 k x0 (x3 ++ (⟨#[59]⟩ : ByteArray)) x4 (rd_L5 x22 x24) x22 x23 x24) else (none)) else (calepinlaw04_ValueWrites.j1 k x0 x3 x4 (rd_L5 x22 x24) x22 x23 x24)) else (none)) else (none)) else ((value_PutFields.f k x0).bind fun t301 => (if t301.toList = x3.toList then (if x4 = true then ((value_Fields.f x3).bind fun bt302 => (if bt302.2 = 0 then (calepinlaw04_ValueWrites.j4 k x0 bt302.1 ((bt302.1.length : Int) != (x0.length : Int))) else (calepinlaw04_ValueWrites.j4 k x0 bt302.1 true))) else (some true)) else (some false)))
def calepinlaw04_ValueWrites.j1 : Nat → List (List ByteArray) → ByteArray → Bool → List ByteArray → List (List ByteArray) → Int → Int → Option (Bool)
  | 0, _, _, _, _, _, _, _ => none
  | k + 1, x0, x3, x4, x6, x22, x23, x24 => (calepinref04_PutList.f k x6).bind fun t288 => (if x3.size + t288.size ≤ 9223372036854775807 then (if x4 = true then (calepinlaw04_ValueWrites.j2 k x0 (x3 ++ t288) (decide ((x6.length : Int) > 0)) x6 t288 x22 x23 x24) else (calepinlaw04_ValueWrites.j2 k x0 (x3 ++ t288) false x6 t288 x22 x23 x24)) else (none))
def calepinlaw04_ValueWrites.j2 : Nat → List (List ByteArray) → ByteArray → Bool → List ByteArray → ByteArray → List (List ByteArray) → Int → Int → Option (Bool)
  | 0, _, _, _, _, _, _, _, _ => none
  | k + 1, x0, x3, x4, x6, x7, x22, x23, x24 => (value_PutList.f k x6).bind fun t289 => (if t289.toList = x7.toList then (calepinlaw04_ValueWrites.l1 k x0 x3 x4 x6 x7 x22 x23 x24 x6 (x6.length : Int) 0) else (some false))
def calepinlaw04_ValueWrites.l1 : Nat → List (List ByteArray) → ByteArray → Bool → List ByteArray → ByteArray → List (List ByteArray) → Int → Int → List ByteArray → Int → Int → Option (Bool)
  | 0, _, _, _, _, _, _, _, _, _, _, _ => none
  | k + 1, x0, x3, x4, x6, x7, x22, x23, x24, x48, x49, x50 => if x50 < x49 then (if 0 ≤ x50 then (if x50 < (x48.length : Int) then ((value_PutText.f (rdOf ByteArray.empty x48 x50)).bind fun t291 => ((value_Text.f t291).bind fun bt292 => ((value_PutText.f (rdOf ByteArray.empty x48 x50)).bind fun t294 => ((calepinref04_Put.f k (rdOf ByteArray.empty x48 x50)).bind fun t295 => (if t294.toList = t295.toList then (if bt292.1.toList = (rdOf ByteArray.empty x48 x50).toList then (if bt292.2 = 0 then (calepinlaw04_ValueWrites.l1 k x0 x3 x4 x6 x7 x22 x23 x24 x48 x49 (wrap64 (x50 + 1))) else (some false)) else (some false)) else (some false)))))) else (none)) else (none)) else (if (x6.length : Int) > 0 then ((value_List.f x7).bind fun bt296 => (if bt296.2 = 0 then ((calepinref04_Same.f k bt296.1 x6).bind fun t300 => (if t300 = true then (calepinlaw04_ValueWrites.l0 k x0 x3 x4 x22 x23 (wrap64 (x24 + 1))) else (some false))) else (some false))) else (calepinlaw04_ValueWrites.l0 k x0 x3 x4 x22 x23 (wrap64 (x24 + 1))))
def calepinlaw04_ValueWrites.j4 : Nat → List (List ByteArray) → List (List ByteArray) → Bool → Option (Bool)
  | 0, _, _, _ => none
  | k + 1, x0, x14, x111 => if x111 = true then (some false) else (calepinlaw04_ValueWrites.l2 k x0 x14 (x14.length : Int) 0)
def calepinlaw04_ValueWrites.l2 : Nat → List (List ByteArray) → List (List ByteArray) → Int → Int → Option (Bool)
  | 0, _, _, _, _ => none
  | k + 1, x0, x14, x113, x114 => if x114 < x113 then (if 0 ≤ x114 then (if x114 < (x14.length : Int) then (if x114 < (x0.length : Int) then ((calepinref04_Same.f k (rd_L5 x14 x114) (rd_L5 x0 x114)).bind fun t308 => (if t308 = true then (calepinlaw04_ValueWrites.l2 k x0 x14 x113 (wrap64 (x114 + 1))) else (some false))) else (none)) else (none)) else (none)) else (some true)
end
def calepinlaw04_ValueWrites.f (k : Nat) (l0 : List (List ByteArray)) : Option (Bool) := (calepinlaw04_first.f).bind fun t286 => (if t286 = true then (calepinlaw04_ValueWrites.l0 k l0 (⟨#[]⟩ : ByteArray) (decide ((l0.length : Int) > 0)) l0 (l0.length : Int) 0) else (some false))
theorem calepinlaw04_ValueWrites.mono_l : ∀ k, (∀ y0 y1 y2 y3 y4 y5, LeO (calepinlaw04_ValueWrites.l0 k y0 y1 y2 y3 y4 y5) (calepinlaw04_ValueWrites.l0 (k + 1) y0 y1 y2 y3 y4 y5)) ∧ (∀ y0 y1 y2 y3 y4 y5 y6, LeO (calepinlaw04_ValueWrites.j1 k y0 y1 y2 y3 y4 y5 y6) (calepinlaw04_ValueWrites.j1 (k + 1) y0 y1 y2 y3 y4 y5 y6)) ∧ (∀ y0 y1 y2 y3 y4 y5 y6 y7, LeO (calepinlaw04_ValueWrites.j2 k y0 y1 y2 y3 y4 y5 y6 y7) (calepinlaw04_ValueWrites.j2 (k + 1) y0 y1 y2 y3 y4 y5 y6 y7)) ∧ (∀ y0 y1 y2 y3 y4 y5 y6 y7 y8 y9 y10, LeO (calepinlaw04_ValueWrites.l1 k y0 y1 y2 y3 y4 y5 y6 y7 y8 y9 y10) (calepinlaw04_ValueWrites.l1 (k + 1) y0 y1 y2 y3 y4 y5 y6 y7 y8 y9 y10)) ∧ (∀ y0 y1 y2, LeO (calepinlaw04_ValueWrites.j4 k y0 y1 y2) (calepinlaw04_ValueWrites.j4 (k + 1) y0 y1 y2)) ∧ (∀ y0 y1 y2 y3, LeO (calepinlaw04_ValueWrites.l2 k y0 y1 y2 y3) (calepinlaw04_ValueWrites.l2 (k + 1) y0 y1 y2 y3))
  | 0 => ⟨fun _ _ _ _ _ _ r h => by simp [calepinlaw04_ValueWrites.l0] at h, fun _ _ _ _ _ _ _ r h => by simp [calepinlaw04_ValueWrites.j1] at h, fun _ _ _ _ _ _ _ _ r h => by simp [calepinlaw04_ValueWrites.j2] at h, fun _ _ _ _ _ _ _ _ _ _ _ r h => by simp [calepinlaw04_ValueWrites.l1] at h, fun _ _ _ r h => by simp [calepinlaw04_ValueWrites.j4] at h, fun _ _ _ _ r h => by simp [calepinlaw04_ValueWrites.l2] at h⟩
  | k + 1 => by
    obtain ⟨ih0, ih1, ih2, ih3, ih4, ih5⟩ := calepinlaw04_ValueWrites.mono_l k
    refine ⟨?_, ?_, ?_, ?_, ?_, ?_⟩
    · intro y0 y1 y2 y3 y4 y5
      unfold calepinlaw04_ValueWrites.l0
      repeat' first
      | (with_reducible exact ih0 _ _ _ _ _ _)
      | (with_reducible exact ih1 _ _ _ _ _ _ _)
      | (with_reducible exact ih2 _ _ _ _ _ _ _ _)
      | (with_reducible exact ih3 _ _ _ _ _ _ _ _ _ _ _)
      | (with_reducible exact ih4 _ _ _)
      | (with_reducible exact ih5 _ _ _ _)
      | (with_reducible exact calepinref04_Put.mono _ _)
      | (with_reducible exact calepinref04_PutList.mono _ _)
      | (with_reducible exact calepinref04_Same.mono _ _ _)
      | (with_reducible exact value_PutFields.mono _ _)
      | (with_reducible exact value_PutList.mono _ _)
      | (with_reducible exact LeO.refl _)
      | (with_reducible exact LeO.none _)
      | (with_reducible refine LeO.ite ?_ ?_)
      | (with_reducible refine LeO.bind ?_ (fun _ => ?_))
      | exact ih0 _ _ _ _ _ _
      | exact ih1 _ _ _ _ _ _ _
      | exact ih2 _ _ _ _ _ _ _ _
      | exact ih3 _ _ _ _ _ _ _ _ _ _ _
      | exact ih4 _ _ _
      | exact ih5 _ _ _ _
      | exact calepinref04_Put.mono _ _
      | exact calepinref04_PutList.mono _ _
      | exact calepinref04_Same.mono _ _ _
      | exact value_PutFields.mono _ _
      | exact value_PutList.mono _ _
      | exact LeO.none _
      | refine LeO.ite ?_ ?_
      | refine LeO.bind ?_ (fun _ => ?_)
    · intro y0 y1 y2 y3 y4 y5 y6
      unfold calepinlaw04_ValueWrites.j1
      repeat' first
      | (with_reducible exact ih0 _ _ _ _ _ _)
      | (with_reducible exact ih1 _ _ _ _ _ _ _)
      | (with_reducible exact ih2 _ _ _ _ _ _ _ _)
      | (with_reducible exact ih3 _ _ _ _ _ _ _ _ _ _ _)
      | (with_reducible exact ih4 _ _ _)
      | (with_reducible exact ih5 _ _ _ _)
      | (with_reducible exact calepinref04_Put.mono _ _)
      | (with_reducible exact calepinref04_PutList.mono _ _)
      | (with_reducible exact calepinref04_Same.mono _ _ _)
      | (with_reducible exact value_PutFields.mono _ _)
      | (with_reducible exact value_PutList.mono _ _)
      | (with_reducible exact LeO.refl _)
      | (with_reducible exact LeO.none _)
      | (with_reducible refine LeO.ite ?_ ?_)
      | (with_reducible refine LeO.bind ?_ (fun _ => ?_))
      | exact ih0 _ _ _ _ _ _
      | exact ih1 _ _ _ _ _ _ _
      | exact ih2 _ _ _ _ _ _ _ _
      | exact ih3 _ _ _ _ _ _ _ _ _ _ _
      | exact ih4 _ _ _
      | exact ih5 _ _ _ _
      | exact calepinref04_Put.mono _ _
      | exact calepinref04_PutList.mono _ _
      | exact calepinref04_Same.mono _ _ _
      | exact value_PutFields.mono _ _
      | exact value_PutList.mono _ _
      | exact LeO.none _
      | refine LeO.ite ?_ ?_
      | refine LeO.bind ?_ (fun _ => ?_)
    · intro y0 y1 y2 y3 y4 y5 y6 y7
      unfold calepinlaw04_ValueWrites.j2
      repeat' first
      | (with_reducible exact ih0 _ _ _ _ _ _)
      | (with_reducible exact ih1 _ _ _ _ _ _ _)
      | (with_reducible exact ih2 _ _ _ _ _ _ _ _)
      | (with_reducible exact ih3 _ _ _ _ _ _ _ _ _ _ _)
      | (with_reducible exact ih4 _ _ _)
      | (with_reducible exact ih5 _ _ _ _)
      | (with_reducible exact calepinref04_Put.mono _ _)
      | (with_reducible exact calepinref04_PutList.mono _ _)
      | (with_reducible exact calepinref04_Same.mono _ _ _)
      | (with_reducible exact value_PutFields.mono _ _)
      | (with_reducible exact value_PutList.mono _ _)
      | (with_reducible exact LeO.refl _)
      | (with_reducible exact LeO.none _)
      | (with_reducible refine LeO.ite ?_ ?_)
      | (with_reducible refine LeO.bind ?_ (fun _ => ?_))
      | exact ih0 _ _ _ _ _ _
      | exact ih1 _ _ _ _ _ _ _
      | exact ih2 _ _ _ _ _ _ _ _
      | exact ih3 _ _ _ _ _ _ _ _ _ _ _
      | exact ih4 _ _ _
      | exact ih5 _ _ _ _
      | exact calepinref04_Put.mono _ _
      | exact calepinref04_PutList.mono _ _
      | exact calepinref04_Same.mono _ _ _
      | exact value_PutFields.mono _ _
      | exact value_PutList.mono _ _
      | exact LeO.none _
      | refine LeO.ite ?_ ?_
      | refine LeO.bind ?_ (fun _ => ?_)
    · intro y0 y1 y2 y3 y4 y5 y6 y7 y8 y9 y10
      unfold calepinlaw04_ValueWrites.l1
      repeat' first
      | (with_reducible exact ih0 _ _ _ _ _ _)
      | (with_reducible exact ih1 _ _ _ _ _ _ _)
      | (with_reducible exact ih2 _ _ _ _ _ _ _ _)
      | (with_reducible exact ih3 _ _ _ _ _ _ _ _ _ _ _)
      | (with_reducible exact ih4 _ _ _)
      | (with_reducible exact ih5 _ _ _ _)
      | (with_reducible exact calepinref04_Put.mono _ _)
      | (with_reducible exact calepinref04_PutList.mono _ _)
      | (with_reducible exact calepinref04_Same.mono _ _ _)
      | (with_reducible exact value_PutFields.mono _ _)
      | (with_reducible exact value_PutList.mono _ _)
      | (with_reducible exact LeO.refl _)
      | (with_reducible exact LeO.none _)
      | (with_reducible refine LeO.ite ?_ ?_)
      | (with_reducible refine LeO.bind ?_ (fun _ => ?_))
      | exact ih0 _ _ _ _ _ _
      | exact ih1 _ _ _ _ _ _ _
      | exact ih2 _ _ _ _ _ _ _ _
      | exact ih3 _ _ _ _ _ _ _ _ _ _ _
      | exact ih4 _ _ _
      | exact ih5 _ _ _ _
      | exact calepinref04_Put.mono _ _
      | exact calepinref04_PutList.mono _ _
      | exact calepinref04_Same.mono _ _ _
      | exact value_PutFields.mono _ _
      | exact value_PutList.mono _ _
      | exact LeO.none _
      | refine LeO.ite ?_ ?_
      | refine LeO.bind ?_ (fun _ => ?_)
    · intro y0 y1 y2
      unfold calepinlaw04_ValueWrites.j4
      repeat' first
      | (with_reducible exact ih0 _ _ _ _ _ _)
      | (with_reducible exact ih1 _ _ _ _ _ _ _)
      | (with_reducible exact ih2 _ _ _ _ _ _ _ _)
      | (with_reducible exact ih3 _ _ _ _ _ _ _ _ _ _ _)
      | (with_reducible exact ih4 _ _ _)
      | (with_reducible exact ih5 _ _ _ _)
      | (with_reducible exact calepinref04_Put.mono _ _)
      | (with_reducible exact calepinref04_PutList.mono _ _)
      | (with_reducible exact calepinref04_Same.mono _ _ _)
      | (with_reducible exact value_PutFields.mono _ _)
      | (with_reducible exact value_PutList.mono _ _)
      | (with_reducible exact LeO.refl _)
      | (with_reducible exact LeO.none _)
      | (with_reducible refine LeO.ite ?_ ?_)
      | (with_reducible refine LeO.bind ?_ (fun _ => ?_))
      | exact ih0 _ _ _ _ _ _
      | exact ih1 _ _ _ _ _ _ _
      | exact ih2 _ _ _ _ _ _ _ _
      | exact ih3 _ _ _ _ _ _ _ _ _ _ _
      | exact ih4 _ _ _
      | exact ih5 _ _ _ _
      | exact calepinref04_Put.mono _ _
      | exact calepinref04_PutList.mono _ _
      | exact calepinref04_Same.mono _ _ _
      | exact value_PutFields.mono _ _
      | exact value_PutList.mono _ _
      | exact LeO.none _
      | refine LeO.ite ?_ ?_
      | refine LeO.bind ?_ (fun _ => ?_)
    · intro y0 y1 y2 y3
      unfold calepinlaw04_ValueWrites.l2
      repeat' first
      | (with_reducible exact ih0 _ _ _ _ _ _)
      | (with_reducible exact ih1 _ _ _ _ _ _ _)
      | (with_reducible exact ih2 _ _ _ _ _ _ _ _)
      | (with_reducible exact ih3 _ _ _ _ _ _ _ _ _ _ _)
      | (with_reducible exact ih4 _ _ _)
      | (with_reducible exact ih5 _ _ _ _)
      | (with_reducible exact calepinref04_Put.mono _ _)
      | (with_reducible exact calepinref04_PutList.mono _ _)
      | (with_reducible exact calepinref04_Same.mono _ _ _)
      | (with_reducible exact value_PutFields.mono _ _)
      | (with_reducible exact value_PutList.mono _ _)
      | (with_reducible exact LeO.refl _)
      | (with_reducible exact LeO.none _)
      | (with_reducible refine LeO.ite ?_ ?_)
      | (with_reducible refine LeO.bind ?_ (fun _ => ?_))
      | exact ih0 _ _ _ _ _ _
      | exact ih1 _ _ _ _ _ _ _
      | exact ih2 _ _ _ _ _ _ _ _
      | exact ih3 _ _ _ _ _ _ _ _ _ _ _
      | exact ih4 _ _ _
      | exact ih5 _ _ _ _
      | exact calepinref04_Put.mono _ _
      | exact calepinref04_PutList.mono _ _
      | exact calepinref04_Same.mono _ _ _
      | exact value_PutFields.mono _ _
      | exact value_PutList.mono _ _
      | exact LeO.none _
      | refine LeO.ite ?_ ?_
      | refine LeO.bind ?_ (fun _ => ?_)
theorem calepinlaw04_ValueWrites.mono : ∀ a0 k, LeO (calepinlaw04_ValueWrites.f k a0) (calepinlaw04_ValueWrites.f (k + 1) a0) := by
  intro a0 k
  obtain ⟨ih0, ih1, ih2, ih3, ih4, ih5⟩ := calepinlaw04_ValueWrites.mono_l k
  unfold calepinlaw04_ValueWrites.f
  repeat' first
      | (with_reducible exact ih0 _ _ _ _ _ _)
      | (with_reducible exact ih1 _ _ _ _ _ _ _)
      | (with_reducible exact ih2 _ _ _ _ _ _ _ _)
      | (with_reducible exact ih3 _ _ _ _ _ _ _ _ _ _ _)
      | (with_reducible exact ih4 _ _ _)
      | (with_reducible exact ih5 _ _ _ _)
      | (with_reducible exact calepinref04_Put.mono _ _)
      | (with_reducible exact calepinref04_PutList.mono _ _)
      | (with_reducible exact calepinref04_Same.mono _ _ _)
      | (with_reducible exact value_PutFields.mono _ _)
      | (with_reducible exact value_PutList.mono _ _)
      | (with_reducible exact LeO.refl _)
      | (with_reducible exact LeO.none _)
      | (with_reducible refine LeO.ite ?_ ?_)
      | (with_reducible refine LeO.bind ?_ (fun _ => ?_))
      | exact ih0 _ _ _ _ _ _
      | exact ih1 _ _ _ _ _ _ _
      | exact ih2 _ _ _ _ _ _ _ _
      | exact ih3 _ _ _ _ _ _ _ _ _ _ _
      | exact ih4 _ _ _
      | exact ih5 _ _ _ _
      | exact calepinref04_Put.mono _ _
      | exact calepinref04_PutList.mono _ _
      | exact calepinref04_Same.mono _ _ _
      | exact value_PutFields.mono _ _
      | exact value_PutList.mono _ _
      | exact LeO.none _
      | refine LeO.ite ?_ ?_
      | refine LeO.bind ?_ (fun _ => ?_)
set_option maxHeartbeats 8000000 in
set_option maxRecDepth 100000 in
theorem calepinlaw04_ValueWrites.calls (k : Nat) (A0 : Option Addr) (c0 : Nat) (l0 : List (List ByteArray)) (r : Bool) (w : World) (hr0 : Kd.C (Kd.slice 9 Kd.string) w A0 l0.length l0) (hc0 : l0.length ≤ c0) (h : calepinlaw04_ValueWrites.f k l0 = some r) :
    Calls Try.prog 7 #[.slice A0 l0.length c0] w fun e w' => e = .returned (.bool r) ∧ Below w.heap.size w w' := by
  have HR0 := Aside0.mk hr0
  have HC0 := Aside0.mk hc0
  clear hr0 hc0
  have HB := Aside0.mk (Below.refl w.heap.size w)
  have H : ((calepinlaw04_first.f).bind fun t286 => (if t286 = true then (calepinlaw04_ValueWrites.l0 k l0 (⟨#[]⟩ : ByteArray) (decide ((l0.length : Int) > 0)) l0 (l0.length : Int) 0) else (some false))) = some r := h
  clear h
  replace H := Option.bind_eq_some_iff.mp H
  obtain ⟨t286, A20, H⟩ := H
  replace H : (if t286 = true then (calepinlaw04_ValueWrites.l0 k l0 (⟨#[]⟩ : ByteArray) (decide ((l0.length : Int) > 0)) l0 (l0.length : Int) 0) else (some false)) = some r := H
  have A2 := Aside0.mk A20
  clear A20
  by_cases c3 : t286 = true
  · subst c3
    have H1 : (calepinlaw04_ValueWrites.l0 k l0 (⟨#[]⟩ : ByteArray) (decide ((l0.length : Int) > 0)) l0 (l0.length : Int) 0) = some r := by rw [if_pos rfl] at H; exact H
    clear H
    have H := H1
    clear H1
    have H' := Aside0.mk H
    clear H
    go_enter Try.func7, Try.ntmps7
    go_wp2_with (first | (go_at_call 8; (with_reducible refine (calepinlaw04_first.calls  true _ A2.out).mono ?_); rintro e w4 ⟨rfl, hb⟩; have n0_ := Aside0.mk (below_step (by repeat (first | (with_reducible first | exact HB.out | apply below_alloc | apply pw_below_drewN | apply below_drew1) | exact HB.out)) hb); clear HB; have HB := n0_; clear n0_; (try clear hb); (try clear hb2); (try clear hk); (try clear hi)))
    repeat (go_quiet (first | (go_at_call 8; (with_reducible refine (calepinlaw04_first.calls  true _ A2.out).mono ?_); rintro e w4 ⟨rfl, hb⟩; have n0_ := Aside0.mk (below_step (by repeat (first | (with_reducible first | exact HB.out | apply below_alloc | apply pw_below_drewN | apply below_drew1) | exact HB.out)) hb); clear HB; have HB := n0_; clear n0_; (try clear hb); (try clear hb2); (try clear hk); (try clear hi))); try go_wp2_with (first | (go_at_call 8; (with_reducible refine (calepinlaw04_first.calls  true _ A2.out).mono ?_); rintro e w4 ⟨rfl, hb⟩; have n0_ := Aside0.mk (below_step (by repeat (first | (with_reducible first | exact HB.out | apply below_alloc | apply pw_below_drewN | apply below_drew1) | exact HB.out)) hb); clear HB; have HB := n0_; clear n0_; (try clear hb); (try clear hb2); (try clear hk); (try clear hi))))
    go_loopg [3, 4, 24] k (fun kq v3 v4 v24 w' => ∃ (x3_1 : ByteArray) (x4_1 : Bool) (x24_1 : Int), v3 = .string x3_1 ∧ v4 = .bool x4_1 ∧ v24 = .int .i64 x24_1 ∧ Aside0 (calepinlaw04_ValueWrites.l0 kq l0 x3_1 x4_1 l0 (l0.length : Int) x24_1 = some r) ∧ Aside0 (kq ≤ k) ∧ Aside0 (Below w.heap.size w w'))
    case atStart => exact ⟨((⟨#[]⟩ : ByteArray)), (decide ((l0.length : Int) > 0)), (0), (by first | rfl | (simp; done) | (simp [*]; done)), (by first | rfl | (simp; done) | (simp [*]; done)), (by first | rfl | (simp; done) | (simp [*]; done)), H', ⟨Nat.le_refl _⟩, ⟨by repeat (first | (with_reducible first | exact HB.out | apply below_alloc | apply pw_below_drewN | apply below_drew1) | exact HB.out)⟩⟩
    case round =>
      clear H'
      try clear p2
      try clear c3
      obtain ⟨x3_1, x4_1, x24_1, rfl, rfl, rfl, HA, HK1, HB⟩ := hrel
      cases gk with
      | zero => exact absurd HA.out (by simp [calepinlaw04_ValueWrites.l0])
      | succ k1 =>
        have H := HA.out
        clear HA
        simp only [calepinlaw04_ValueWrites.l0] at H
        by_cases c5 : x24_1 < (l0.length : Int)
        · rw [if_pos c5] at H
          have c5b0 : decide (x24_1 < (l0.length : Int)) = true := decide_eq_true c5
          clear c5
          by_cases c6 : 0 ≤ x24_1
          · rw [if_pos c6] at H
            have c6b0 : decide (0 ≤ x24_1) = true := decide_eq_true c6
            clear c6
            by_cases c7 : x24_1 < (l0.length : Int)
            · rw [if_pos c7] at H
              have c7b0 : decide (x24_1 < (l0.length : Int)) = true := decide_eq_true c7
              clear c7
              have HC8 := Aside0.mk H
              clear H
              have p287 : 0 ≤ (x24_1 : Int) := of_decide_eq_true (by first | (with_reducible assumption) | assumption)
              have q287 : x24_1 < (l0.length : Int) := of_decide_eq_true (by first | (with_reducible assumption) | assumption)
              obtain ⟨ad287, A287_0, c287_0, e287, hx287_0, hl287_0, hi287_0⟩ := at_L5 HR0.out x24_1 p287 q287
              cases e287
              replace hx287_0 := (HB.out.cell (World.block_lt_of_cell? w _ hx287_0)).trans hx287_0
              have HR287_0 := Aside0.mk hi287_0
              have HC287_0 := Aside0.mk hl287_0
              clear hi287_0 hl287_0
              replace p287 := eq_true p287
              replace q287 := eq_true q287
              go_upto_if 30 with (fail)
              repeat (go_quiet (fail); go_upto_if 30 with (fail))
              go_cut [3] (fun v3 wc => ∃ (kq : Nat) (x3_7 : ByteArray), v3 = .string x3_7 ∧ Aside0 (calepinlaw04_ValueWrites.j1 kq l0 x3_7 x4_1 (rd_L5 l0 x24_1) l0 (l0.length : Int) x24_1 = some r) ∧ Aside0 (kq ≤ k1) ∧ Aside0 (Below w.heap.size w wc))
              case first =>
                have H := HC8.out
                clear HC8
                by_cases c9 : x24_1 > 0
                · rw [if_pos c9] at H
                  have c9b0 : decide (0 < x24_1) = true := decide_eq_true c9
                  clear c9
                  (first | rw [c9b0] | (simp only [i64_w, i32_w]; rw [c9b0]) | skip)
                  by_cases c10 : x3_1.size + 1 ≤ 9223372036854775807
                  · rw [if_pos c10] at H
                    have c10b0 := eq_true c10
                    have c10b1 : decide (x3_1.size + 1 ≤ 9223372036854775807) = true := decide_eq_true c10
                    try have c10b2 : (9223372036854775807 < x3_1.size + 1) = False := eq_false (Nat.not_lt.2 c10)
                    have H' := Aside0.mk H
                    clear H
                    go_wp2
                    repeat (go_quiet (fail); try go_wp2)
                    go_meet
                    case rel => exact ⟨_, (x3_1 ++ (⟨#[59]⟩ : ByteArray)), (by first | rfl | (simp; done) | (simp [*]; done)), H', ⟨by have := HK1.out; first | omega | exact Nat.le_refl _⟩, ⟨by repeat (first | (with_reducible first | exact HB.out | apply below_alloc | apply pw_below_drewN | apply below_drew1) | exact HB.out)⟩⟩
                  · rw [if_neg c10] at H
                    exact absurd H (by simp)
                · rw [if_neg c9] at H
                  have c9b0 : decide (0 < x24_1) = false := decide_eq_false c9
                  clear c9
                  (first | rw [c9b0] | (simp only [i64_w, i32_w]; rw [c9b0]) | skip)
                  have H' := Aside0.mk H
                  clear H
                  go_wp2
                  repeat (go_quiet (fail); try go_wp2)
                  go_meet
                  case rel => exact ⟨_, (x3_1), (by first | rfl | (simp; done) | (simp [*]; done)), H', ⟨by have := HK1.out; first | omega | exact Nat.le_refl _⟩, ⟨by repeat (first | (with_reducible first | exact HB.out | apply below_alloc | apply pw_below_drewN | apply below_drew1) | exact HB.out)⟩⟩
              case rest =>
                clear HC8
                try clear c1
                try clear c2
                try clear p2
                try clear q2
                try clear hx2
                try clear c3
                try clear c5
                try clear c5b0
                try clear c6
                try clear c6b0
                try clear c7
                try clear c7b0
                try clear c9
                try clear c9b0
                try clear c10
                try clear c10b0
                try clear c10b1
                try clear c10b2
                try clear hx287_0
                try clear p2
                try clear p287
                try clear q287
                obtain ⟨kq, x3_7, rfl, HA, HJ7, HB⟩ := hcut
                cases kq with
                | zero => exact absurd HA.out (by simp [calepinlaw04_ValueWrites.j1])
                | succ kj7 =>
                  have H := HA.out
                  clear HA
                  simp only [calepinlaw04_ValueWrites.j1] at H
                  replace H := Option.bind_eq_some_iff.mp H
                  obtain ⟨t288, A110, H⟩ := H
                  replace H : (if x3_7.size + t288.size ≤ 9223372036854775807 then (if x4_1 = true then (calepinlaw04_ValueWrites.j2 kj7 l0 (x3_7 ++ t288) (decide (((rd_L5 l0 x24_1).length : Int) > 0)) (rd_L5 l0 x24_1) t288 l0 (l0.length : Int) x24_1) else (calepinlaw04_ValueWrites.j2 kj7 l0 (x3_7 ++ t288) false (rd_L5 l0 x24_1) t288 l0 (l0.length : Int) x24_1)) else (none)) = some r := H
                  have A11 := Aside0.mk A110
                  clear A110
                  by_cases c12 : x3_7.size + t288.size ≤ 9223372036854775807
                  · rw [if_pos c12] at H
                    have c12b0 := eq_true c12
                    have c12b1 : decide (x3_7.size + t288.size ≤ 9223372036854775807) = true := decide_eq_true c12
                    try have c12b2 : (9223372036854775807 < x3_7.size + t288.size) = False := eq_false (Nat.not_lt.2 c12)
                    have HC13 := Aside0.mk H
                    clear H
                    go_upto_region 11 with (first | (go_at_call 18; (with_reducible refine (calepinref04_PutList.calls kj7 _ _ (rd_L5 l0 x24_1) t288 _ ?side1 ?side2 A11.out).mono ?_); (case side1 => repeat (first | exact (Kd.C_below HR287_0.out HB.out) | (with_reducible refine Kd.C_alloc ?_ _) | (with_reducible refine Kd.C_drewN ?_ _) | (with_reducible refine Kd.C_drew ?_))); (case side2 => exact HC287_0.out); rintro e w' ⟨rfl, ⟨nd, rfl⟩⟩; (try first | exact ⟨rfl, _, World.drewN_drewN _ _ _⟩ | exact ⟨rfl, _, Eq.trans (World.drewN_drewN _ _ _) (congrArg (World.drewN _) (Nat.add_assoc _ _ _))⟩)))
                    repeat (go_quiet (first | (go_at_call 18; (with_reducible refine (calepinref04_PutList.calls kj7 _ _ (rd_L5 l0 x24_1) t288 _ ?side1 ?side2 A11.out).mono ?_); (case side1 => repeat (first | exact (Kd.C_below HR287_0.out HB.out) | (with_reducible refine Kd.C_alloc ?_ _) | (with_reducible refine Kd.C_drewN ?_ _) | (with_reducible refine Kd.C_drew ?_))); (case side2 => exact HC287_0.out); rintro e w' ⟨rfl, ⟨nd, rfl⟩⟩; (try first | exact ⟨rfl, _, World.drewN_drewN _ _ _⟩ | exact ⟨rfl, _, Eq.trans (World.drewN_drewN _ _ _) (congrArg (World.drewN _) (Nat.add_assoc _ _ _))⟩))); go_upto_region 11 with (first | (go_at_call 18; (with_reducible refine (calepinref04_PutList.calls kj7 _ _ (rd_L5 l0 x24_1) t288 _ ?side1 ?side2 A11.out).mono ?_); (case side1 => repeat (first | exact (Kd.C_below HR287_0.out HB.out) | (with_reducible refine Kd.C_alloc ?_ _) | (with_reducible refine Kd.C_drewN ?_ _) | (with_reducible refine Kd.C_drew ?_))); (case side2 => exact HC287_0.out); rintro e w' ⟨rfl, ⟨nd, rfl⟩⟩; (try first | exact ⟨rfl, _, World.drewN_drewN _ _ _⟩ | exact ⟨rfl, _, Eq.trans (World.drewN_drewN _ _ _) (congrArg (World.drewN _) (Nat.add_assoc _ _ _))⟩))))
                    (try simp only [Act.put, List.setIfInBounds_toArray, List.set_cons_zero, List.set_cons_succ])
                    go_cut [4] (fun v4 wc => ∃ (kq : Nat) (x4_12 : Bool), v4 = .bool x4_12 ∧ Aside0 (calepinlaw04_ValueWrites.j2 kq l0 (x3_7 ++ t288) x4_12 (rd_L5 l0 x24_1) t288 l0 (l0.length : Int) x24_1 = some r) ∧ Aside0 (kq ≤ kj7) ∧ Aside0 (Below w.heap.size w wc))
                    case first =>
                      have H := HC13.out
                      clear HC13
                      by_cases c14 : x4_1 = true
                      · subst c14
                        have H1 : (calepinlaw04_ValueWrites.j2 kj7 l0 (x3_7 ++ t288) (decide (((rd_L5 l0 x24_1).length : Int) > 0)) (rd_L5 l0 x24_1) t288 l0 (l0.length : Int) x24_1) = some r := by rw [if_pos rfl] at H; exact H
                        clear H
                        have H := H1
                        clear H1
                        have H' := Aside0.mk H
                        clear H
                        go_wp2
                        repeat (go_quiet (fail); try go_wp2)
                        go_meet
                        case rel => exact ⟨_, (decide (((rd_L5 l0 x24_1).length : Int) > 0)), (by first | rfl | (simp; done) | (simp [*]; done)), H', ⟨by have := HK1.out; have := HJ7.out; first | omega | exact Nat.le_refl _⟩, ⟨by repeat (first | (with_reducible first | exact HB.out | apply below_alloc | apply pw_below_drewN | apply below_drew1) | exact HB.out)⟩⟩
                      · replace c14 := Bool.eq_false_iff.mpr c14
                        subst c14
                        have H1 : (calepinlaw04_ValueWrites.j2 kj7 l0 (x3_7 ++ t288) false (rd_L5 l0 x24_1) t288 l0 (l0.length : Int) x24_1) = some r := by rw [if_neg (show ¬ (false = true) by decide)] at H; exact H
                        clear H
                        have H := H1
                        clear H1
                        have H' := Aside0.mk H
                        clear H
                        go_wp2
                        repeat (go_quiet (fail); try go_wp2)
                        go_meet
                        case rel => exact ⟨_, (false), (by first | rfl | (simp; done) | (simp [*]; done)), H', ⟨by have := HK1.out; have := HJ7.out; first | omega | exact Nat.le_refl _⟩, ⟨by repeat (first | (with_reducible first | exact HB.out | apply below_alloc | apply pw_below_drewN | apply below_drew1) | exact HB.out)⟩⟩
                    case rest =>
                      clear HC13
                      try clear c1
                      try clear c2
                      try clear p2
                      try clear q2
                      try clear hx2
                      try clear c3
                      try clear c5
                      try clear c5b0
                      try clear c6
                      try clear c6b0
                      try clear c7
                      try clear c7b0
                      try clear c9
                      try clear c9b0
                      try clear c10
                      try clear c10b0
                      try clear c10b1
                      try clear c10b2
                      try clear c12
                      try clear c12b0
                      try clear c12b1
                      try clear c12b2
                      try clear c14
                      try clear hx287_0
                      try clear p2
                      try clear p287
                      try clear q2
                      try clear q287
                      obtain ⟨kq, x4_12, rfl, HA, HJ12, HB⟩ := hcut
                      cases kq with
                      | zero => exact absurd HA.out (by simp [calepinlaw04_ValueWrites.j2])
                      | succ kj12 =>
                        have H := HA.out
                        clear HA
                        simp only [calepinlaw04_ValueWrites.j2] at H
                        replace H := Option.bind_eq_some_iff.mp H
                        obtain ⟨t289, A150, H⟩ := H
                        replace H : (if t289.toList = t288.toList then (calepinlaw04_ValueWrites.l1 kj12 l0 (x3_7 ++ t288) x4_12 (rd_L5 l0 x24_1) t288 l0 (l0.length : Int) x24_1 (rd_L5 l0 x24_1) ((rd_L5 l0 x24_1).length : Int) 0) else (some false)) = some r := H
                        have A15 := Aside0.mk A150
                        clear A150
                        by_cases c16 : t289.toList = t288.toList
                        · rw [if_pos c16] at H
                          have c16b0 : (t289.toList == t288.toList) = true := beq_iff_eq.mpr c16
                          have c16b1 : (t289.toList != t288.toList) = false := bne_eq_false_iff_eq.mpr c16
                          clear c16
                          have H' := Aside0.mk H
                          clear H
                          go_wp2_with (first | (go_at_call 19; (with_reducible refine (value_PutList.calls kj12 _ _ (rd_L5 l0 x24_1) t289 _ ?side1 ?side2 A15.out).mono ?_); (case side1 => repeat (first | exact (Kd.C_below HR287_0.out HB.out) | (with_reducible refine Kd.C_alloc ?_ _) | (with_reducible refine Kd.C_drewN ?_ _) | (with_reducible refine Kd.C_drew ?_))); (case side2 => exact HC287_0.out); rintro e w17 ⟨rfl, hb⟩; have n0_ := Aside0.mk (below_step (by repeat (first | (with_reducible first | exact HB.out | apply below_alloc | apply pw_below_drewN | apply below_drew1) | exact HB.out)) hb); clear HB; have HB := n0_; clear n0_; (try clear hb); (try clear hb2); (try clear hk); (try clear hi)))
                          repeat (go_quiet (first | (go_at_call 19; (with_reducible refine (value_PutList.calls kj12 _ _ (rd_L5 l0 x24_1) t289 _ ?side1 ?side2 A15.out).mono ?_); (case side1 => repeat (first | exact (Kd.C_below HR287_0.out HB.out) | (with_reducible refine Kd.C_alloc ?_ _) | (with_reducible refine Kd.C_drewN ?_ _) | (with_reducible refine Kd.C_drew ?_))); (case side2 => exact HC287_0.out); rintro e w17 ⟨rfl, hb⟩; have n0_ := Aside0.mk (below_step (by repeat (first | (with_reducible first | exact HB.out | apply below_alloc | apply pw_below_drewN | apply below_drew1) | exact HB.out)) hb); clear HB; have HB := n0_; clear n0_; (try clear hb); (try clear hb2); (try clear hk); (try clear hi))); try go_wp2_with (first | (go_at_call 19; (with_reducible refine (value_PutList.calls kj12 _ _ (rd_L5 l0 x24_1) t289 _ ?side1 ?side2 A15.out).mono ?_); (case side1 => repeat (first | exact (Kd.C_below HR287_0.out HB.out) | (with_reducible refine Kd.C_alloc ?_ _) | (with_reducible refine Kd.C_drewN ?_ _) | (with_reducible refine Kd.C_drew ?_))); (case side2 => exact HC287_0.out); rintro e w17 ⟨rfl, hb⟩; have n0_ := Aside0.mk (below_step (by repeat (first | (with_reducible first | exact HB.out | apply below_alloc | apply pw_below_drewN | apply below_drew1) | exact HB.out)) hb); clear HB; have HB := n0_; clear n0_; (try clear hb); (try clear hb2); (try clear hk); (try clear hi))))
                          go_loopg [50] kj12 (fun kq v50 w' => ∃ (x50_4 : Int), v50 = .int .i64 x50_4 ∧ Aside0 (calepinlaw04_ValueWrites.l1 kq l0 (x3_7 ++ t288) x4_12 (rd_L5 l0 x24_1) t288 l0 (l0.length : Int) x24_1 (rd_L5 l0 x24_1) ((rd_L5 l0 x24_1).length : Int) x50_4 = some r) ∧ Aside0 (kq ≤ kj12) ∧ Aside0 (Below w.heap.size w w'))
                          case atStart => exact ⟨(0), (by first | rfl | (simp; done) | (simp [*]; done)), H', ⟨Nat.le_refl _⟩, ⟨by repeat (first | (with_reducible first | exact HB.out | apply below_alloc | apply pw_below_drewN | apply below_drew1) | exact HB.out)⟩⟩
                          case round =>
                            clear H'
                            try clear c1
                            try clear c2
                            try clear p2
                            try clear q2
                            try clear hx2
                            try clear c3
                            try clear c5
                            try clear c5b0
                            try clear c6
                            try clear c6b0
                            try clear c7
                            try clear c7b0
                            try clear c9
                            try clear c9b0
                            try clear c10
                            try clear c10b0
                            try clear c10b1
                            try clear c10b2
                            try clear c12
                            try clear c12b0
                            try clear c12b1
                            try clear c12b2
                            try clear c14
                            try clear c16
                            try clear c16b0
                            try clear c16b1
                            try clear hx287_0
                            try clear p2
                            try clear p287
                            try clear q2
                            try clear q287
                            obtain ⟨x50_4, rfl, HA, HK4, HB⟩ := hrel
                            cases gk with
                            | zero => exact absurd HA.out (by simp [calepinlaw04_ValueWrites.l1])
                            | succ k4 =>
                              have H := HA.out
                              clear HA
                              simp only [calepinlaw04_ValueWrites.l1] at H
                              by_cases c18 : x50_4 < ((rd_L5 l0 x24_1).length : Int)
                              · rw [if_pos c18] at H
                                have c18b0 : decide (x50_4 < ((rd_L5 l0 x24_1).length : Int)) = true := decide_eq_true c18
                                clear c18
                                by_cases c19 : 0 ≤ x50_4
                                · rw [if_pos c19] at H
                                  have c19b0 : decide (0 ≤ x50_4) = true := decide_eq_true c19
                                  clear c19
                                  by_cases c20 : x50_4 < ((rd_L5 l0 x24_1).length : Int)
                                  · rw [if_pos c20] at H
                                    have c20b0 : decide (x50_4 < ((rd_L5 l0 x24_1).length : Int)) = true := decide_eq_true c20
                                    clear c20
                                    replace H := Option.bind_eq_some_iff.mp H
                                    obtain ⟨t291, A210, H⟩ := H
                                    replace H : ((value_Text.f t291).bind fun bt292 => ((value_PutText.f (rdOf ByteArray.empty (rd_L5 l0 x24_1) x50_4)).bind fun t294 => ((calepinref04_Put.f k4 (rdOf ByteArray.empty (rd_L5 l0 x24_1) x50_4)).bind fun t295 => (if t294.toList = t295.toList then (if bt292.1.toList = (rdOf ByteArray.empty (rd_L5 l0 x24_1) x50_4).toList then (if bt292.2 = 0 then (calepinlaw04_ValueWrites.l1 k4 l0 (x3_7 ++ t288) x4_12 (rd_L5 l0 x24_1) t288 l0 (l0.length : Int) x24_1 (rd_L5 l0 x24_1) ((rd_L5 l0 x24_1).length : Int) (wrap64 (x50_4 + 1))) else (some false)) else (some false)) else (some false))))) = some r := H
                                    have A21 := Aside0.mk A210
                                    clear A210
                                    replace H := Option.bind_eq_some_iff.mp H
                                    obtain ⟨⟨t292, t293⟩, A220, H⟩ := H
                                    replace H : ((value_PutText.f (rdOf ByteArray.empty (rd_L5 l0 x24_1) x50_4)).bind fun t294 => ((calepinref04_Put.f k4 (rdOf ByteArray.empty (rd_L5 l0 x24_1) x50_4)).bind fun t295 => (if t294.toList = t295.toList then (if t292.toList = (rdOf ByteArray.empty (rd_L5 l0 x24_1) x50_4).toList then (if t293 = 0 then (calepinlaw04_ValueWrites.l1 k4 l0 (x3_7 ++ t288) x4_12 (rd_L5 l0 x24_1) t288 l0 (l0.length : Int) x24_1 (rd_L5 l0 x24_1) ((rd_L5 l0 x24_1).length : Int) (wrap64 (x50_4 + 1))) else (some false)) else (some false)) else (some false)))) = some r := H
                                    have A22 := Aside0.mk A220
                                    clear A220
                                    replace H := Option.bind_eq_some_iff.mp H
                                    obtain ⟨t294, A230, H⟩ := H
                                    replace H : ((calepinref04_Put.f k4 (rdOf ByteArray.empty (rd_L5 l0 x24_1) x50_4)).bind fun t295 => (if t294.toList = t295.toList then (if t292.toList = (rdOf ByteArray.empty (rd_L5 l0 x24_1) x50_4).toList then (if t293 = 0 then (calepinlaw04_ValueWrites.l1 k4 l0 (x3_7 ++ t288) x4_12 (rd_L5 l0 x24_1) t288 l0 (l0.length : Int) x24_1 (rd_L5 l0 x24_1) ((rd_L5 l0 x24_1).length : Int) (wrap64 (x50_4 + 1))) else (some false)) else (some false)) else (some false))) = some r := H
                                    have A23 := Aside0.mk A230
                                    clear A230
                                    replace H := Option.bind_eq_some_iff.mp H
                                    obtain ⟨t295, A240, H⟩ := H
                                    replace H : (if t294.toList = t295.toList then (if t292.toList = (rdOf ByteArray.empty (rd_L5 l0 x24_1) x50_4).toList then (if t293 = 0 then (calepinlaw04_ValueWrites.l1 k4 l0 (x3_7 ++ t288) x4_12 (rd_L5 l0 x24_1) t288 l0 (l0.length : Int) x24_1 (rd_L5 l0 x24_1) ((rd_L5 l0 x24_1).length : Int) (wrap64 (x50_4 + 1))) else (some false)) else (some false)) else (some false)) = some r := H
                                    have A24 := Aside0.mk A240
                                    clear A240
                                    obtain rfl : t291 = t294 := Option.some.inj (A21.out.symm.trans A23.out)
                                    by_cases c25 : t291.toList = t295.toList
                                    · rw [if_pos c25] at H
                                      have c25b0 : (t291.toList == t295.toList) = true := beq_iff_eq.mpr c25
                                      have c25b1 : (t291.toList != t295.toList) = false := bne_eq_false_iff_eq.mpr c25
                                      clear c25
                                      by_cases c26 : t292.toList = (rdOf ByteArray.empty (rd_L5 l0 x24_1) x50_4).toList
                                      · rw [if_pos c26] at H
                                        have c26b0 : (t292.toList == (rdOf ByteArray.empty (rd_L5 l0 x24_1) x50_4).toList) = true := beq_iff_eq.mpr c26
                                        have c26b1 : (t292.toList != (rdOf ByteArray.empty (rd_L5 l0 x24_1) x50_4).toList) = false := bne_eq_false_iff_eq.mpr c26
                                        clear c26
                                        by_cases c27 : t293 = 0
                                        · rw [if_pos c27] at H
                                          have c27b0 : (t293 == 0) = true := beq_iff_eq.mpr c27
                                          have c27b1 : (t293 != 0) = false := bne_eq_false_iff_eq.mpr c27
                                          clear c27
                                          have H' := Aside0.mk H
                                          clear H
                                          have p290 : 0 ≤ (x50_4 : Int) := of_decide_eq_true (by first | (with_reducible assumption) | assumption)
                                          have q290 : x50_4 < ((rd_L5 l0 x24_1).length : Int) := of_decide_eq_true (by first | (with_reducible assumption) | assumption)
                                          obtain ⟨ad290, e290, hx290_0⟩ := Kd.at_string HR287_0.out x50_4 p290 q290
                                          cases e290
                                          replace hx290_0 := (HB.out.cell (World.block_lt_of_cell? w _ hx290_0)).trans hx290_0
                                          replace p290 := eq_true p290
                                          replace q290 := eq_true q290
                                          go_wp2_with (first | (go_at_call 17; (with_reducible refine (value_PutText.calls (rdOf ByteArray.empty (rd_L5 l0 x24_1) x50_4) t291 _ A21.out).mono ?_); rintro e w28 ⟨rfl, hb⟩; have n0_ := Aside0.mk (below_step (by repeat (first | (with_reducible first | exact HB.out | apply below_alloc | apply pw_below_drewN | apply below_drew1) | exact HB.out)) hb); clear HB; have HB := n0_; clear n0_; (try clear hb); (try clear hb2); (try clear hk); (try clear hi)) | (go_at_call 10; (with_reducible refine (value_Text.calls t291 t292 t293 _ A22.out).mono ?_); rintro e w29 ⟨rfl, hb⟩; have n0_ := Aside0.mk (below_step (by repeat (first | (with_reducible first | exact HB.out | apply below_alloc | apply pw_below_drewN | apply below_drew1) | exact HB.out)) hb); clear HB; have HB := n0_; clear n0_; (try clear hb); (try clear hb2); (try clear hk); (try clear hi)) | (go_at_call 17; (with_reducible refine (value_PutText.calls (rdOf ByteArray.empty (rd_L5 l0 x24_1) x50_4) t291 _ A23.out).mono ?_); rintro e w30 ⟨rfl, hb⟩; have n0_ := Aside0.mk (below_step (by repeat (first | (with_reducible first | exact HB.out | apply below_alloc | apply pw_below_drewN | apply below_drew1) | exact HB.out)) hb); clear HB; have HB := n0_; clear n0_; (try clear hb); (try clear hb2); (try clear hk); (try clear hi)) | (go_at_call 20; (with_reducible refine (calepinref04_Put.calls k4 (rdOf ByteArray.empty (rd_L5 l0 x24_1) x50_4) t295 _ A24.out).mono ?_); rintro e w' ⟨rfl, ⟨nd, rfl⟩⟩; (try first | exact ⟨rfl, _, World.drewN_drewN _ _ _⟩ | exact ⟨rfl, _, Eq.trans (World.drewN_drewN _ _ _) (congrArg (World.drewN _) (Nat.add_assoc _ _ _))⟩)))
                                          repeat (go_quiet (first | (go_at_call 17; (with_reducible refine (value_PutText.calls (rdOf ByteArray.empty (rd_L5 l0 x24_1) x50_4) t291 _ A21.out).mono ?_); rintro e w28 ⟨rfl, hb⟩; have n0_ := Aside0.mk (below_step (by repeat (first | (with_reducible first | exact HB.out | apply below_alloc | apply pw_below_drewN | apply below_drew1) | exact HB.out)) hb); clear HB; have HB := n0_; clear n0_; (try clear hb); (try clear hb2); (try clear hk); (try clear hi)) | (go_at_call 10; (with_reducible refine (value_Text.calls t291 t292 t293 _ A22.out).mono ?_); rintro e w29 ⟨rfl, hb⟩; have n0_ := Aside0.mk (below_step (by repeat (first | (with_reducible first | exact HB.out | apply below_alloc | apply pw_below_drewN | apply below_drew1) | exact HB.out)) hb); clear HB; have HB := n0_; clear n0_; (try clear hb); (try clear hb2); (try clear hk); (try clear hi)) | (go_at_call 17; (with_reducible refine (value_PutText.calls (rdOf ByteArray.empty (rd_L5 l0 x24_1) x50_4) t291 _ A23.out).mono ?_); rintro e w30 ⟨rfl, hb⟩; have n0_ := Aside0.mk (below_step (by repeat (first | (with_reducible first | exact HB.out | apply below_alloc | apply pw_below_drewN | apply below_drew1) | exact HB.out)) hb); clear HB; have HB := n0_; clear n0_; (try clear hb); (try clear hb2); (try clear hk); (try clear hi)) | (go_at_call 20; (with_reducible refine (calepinref04_Put.calls k4 (rdOf ByteArray.empty (rd_L5 l0 x24_1) x50_4) t295 _ A24.out).mono ?_); rintro e w' ⟨rfl, ⟨nd, rfl⟩⟩; (try first | exact ⟨rfl, _, World.drewN_drewN _ _ _⟩ | exact ⟨rfl, _, Eq.trans (World.drewN_drewN _ _ _) (congrArg (World.drewN _) (Nat.add_assoc _ _ _))⟩))); try go_wp2_with (first | (go_at_call 17; (with_reducible refine (value_PutText.calls (rdOf ByteArray.empty (rd_L5 l0 x24_1) x50_4) t291 _ A21.out).mono ?_); rintro e w28 ⟨rfl, hb⟩; have n0_ := Aside0.mk (below_step (by repeat (first | (with_reducible first | exact HB.out | apply below_alloc | apply pw_below_drewN | apply below_drew1) | exact HB.out)) hb); clear HB; have HB := n0_; clear n0_; (try clear hb); (try clear hb2); (try clear hk); (try clear hi)) | (go_at_call 10; (with_reducible refine (value_Text.calls t291 t292 t293 _ A22.out).mono ?_); rintro e w29 ⟨rfl, hb⟩; have n0_ := Aside0.mk (below_step (by repeat (first | (with_reducible first | exact HB.out | apply below_alloc | apply pw_below_drewN | apply below_drew1) | exact HB.out)) hb); clear HB; have HB := n0_; clear n0_; (try clear hb); (try clear hb2); (try clear hk); (try clear hi)) | (go_at_call 17; (with_reducible refine (value_PutText.calls (rdOf ByteArray.empty (rd_L5 l0 x24_1) x50_4) t291 _ A23.out).mono ?_); rintro e w30 ⟨rfl, hb⟩; have n0_ := Aside0.mk (below_step (by repeat (first | (with_reducible first | exact HB.out | apply below_alloc | apply pw_below_drewN | apply below_drew1) | exact HB.out)) hb); clear HB; have HB := n0_; clear n0_; (try clear hb); (try clear hb2); (try clear hk); (try clear hi)) | (go_at_call 20; (with_reducible refine (calepinref04_Put.calls k4 (rdOf ByteArray.empty (rd_L5 l0 x24_1) x50_4) t295 _ A24.out).mono ?_); rintro e w' ⟨rfl, ⟨nd, rfl⟩⟩; (try first | exact ⟨rfl, _, World.drewN_drewN _ _ _⟩ | exact ⟨rfl, _, Eq.trans (World.drewN_drewN _ _ _) (congrArg (World.drewN _) (Nat.add_assoc _ _ _))⟩))))
                                          go_roundg k4
                                          case measure => have := HK1.out; have := HJ7.out; have := HJ12.out; have := HK4.out; omega
                                          case rel => exact ⟨(wrap64 (x50_4 + 1)), (by first | rfl | (simp; done) | (simp [*]; done)), H', ⟨by have := HK1.out; have := HJ7.out; have := HJ12.out; have := HK4.out; omega⟩, ⟨by repeat (first | (with_reducible first | exact HB.out | apply below_alloc | apply pw_below_drewN | apply below_drew1) | exact HB.out)⟩⟩
                                        · rw [if_neg c27] at H
                                          have c27b0 : (t293 == 0) = false := beq_eq_false_iff_ne.mpr c27
                                          have c27b1 : (t293 != 0) = true := bne_iff_ne.mpr c27
                                          obtain rfl := Option.some.inj H
                                          have p290 : 0 ≤ (x50_4 : Int) := of_decide_eq_true (by first | (with_reducible assumption) | assumption)
                                          have q290 : x50_4 < ((rd_L5 l0 x24_1).length : Int) := of_decide_eq_true (by first | (with_reducible assumption) | assumption)
                                          obtain ⟨ad290, e290, hx290_0⟩ := Kd.at_string HR287_0.out x50_4 p290 q290
                                          cases e290
                                          replace hx290_0 := (HB.out.cell (World.block_lt_of_cell? w _ hx290_0)).trans hx290_0
                                          replace p290 := eq_true p290
                                          replace q290 := eq_true q290
                                          go_wp2_with (first | (go_at_call 17; (with_reducible refine (value_PutText.calls (rdOf ByteArray.empty (rd_L5 l0 x24_1) x50_4) t291 _ A21.out).mono ?_); rintro e w31 ⟨rfl, hb⟩; have n0_ := Aside0.mk (below_step (by repeat (first | (with_reducible first | exact HB.out | apply below_alloc | apply pw_below_drewN | apply below_drew1) | exact HB.out)) hb); clear HB; have HB := n0_; clear n0_; (try clear hb); (try clear hb2); (try clear hk); (try clear hi)) | (go_at_call 10; (with_reducible refine (value_Text.calls t291 t292 t293 _ A22.out).mono ?_); rintro e w32 ⟨rfl, hb⟩; have n0_ := Aside0.mk (below_step (by repeat (first | (with_reducible first | exact HB.out | apply below_alloc | apply pw_below_drewN | apply below_drew1) | exact HB.out)) hb); clear HB; have HB := n0_; clear n0_; (try clear hb); (try clear hb2); (try clear hk); (try clear hi)) | (go_at_call 17; (with_reducible refine (value_PutText.calls (rdOf ByteArray.empty (rd_L5 l0 x24_1) x50_4) t291 _ A23.out).mono ?_); rintro e w33 ⟨rfl, hb⟩; have n0_ := Aside0.mk (below_step (by repeat (first | (with_reducible first | exact HB.out | apply below_alloc | apply pw_below_drewN | apply below_drew1) | exact HB.out)) hb); clear HB; have HB := n0_; clear n0_; (try clear hb); (try clear hb2); (try clear hk); (try clear hi)) | (go_at_call 20; (with_reducible refine (calepinref04_Put.calls k4 (rdOf ByteArray.empty (rd_L5 l0 x24_1) x50_4) t295 _ A24.out).mono ?_); rintro e w' ⟨rfl, ⟨nd, rfl⟩⟩; (try first | exact ⟨rfl, _, World.drewN_drewN _ _ _⟩ | exact ⟨rfl, _, Eq.trans (World.drewN_drewN _ _ _) (congrArg (World.drewN _) (Nat.add_assoc _ _ _))⟩)))
                                          repeat (go_quiet (first | (go_at_call 17; (with_reducible refine (value_PutText.calls (rdOf ByteArray.empty (rd_L5 l0 x24_1) x50_4) t291 _ A21.out).mono ?_); rintro e w31 ⟨rfl, hb⟩; have n0_ := Aside0.mk (below_step (by repeat (first | (with_reducible first | exact HB.out | apply below_alloc | apply pw_below_drewN | apply below_drew1) | exact HB.out)) hb); clear HB; have HB := n0_; clear n0_; (try clear hb); (try clear hb2); (try clear hk); (try clear hi)) | (go_at_call 10; (with_reducible refine (value_Text.calls t291 t292 t293 _ A22.out).mono ?_); rintro e w32 ⟨rfl, hb⟩; have n0_ := Aside0.mk (below_step (by repeat (first | (with_reducible first | exact HB.out | apply below_alloc | apply pw_below_drewN | apply below_drew1) | exact HB.out)) hb); clear HB; have HB := n0_; clear n0_; (try clear hb); (try clear hb2); (try clear hk); (try clear hi)) | (go_at_call 17; (with_reducible refine (value_PutText.calls (rdOf ByteArray.empty (rd_L5 l0 x24_1) x50_4) t291 _ A23.out).mono ?_); rintro e w33 ⟨rfl, hb⟩; have n0_ := Aside0.mk (below_step (by repeat (first | (with_reducible first | exact HB.out | apply below_alloc | apply pw_below_drewN | apply below_drew1) | exact HB.out)) hb); clear HB; have HB := n0_; clear n0_; (try clear hb); (try clear hb2); (try clear hk); (try clear hi)) | (go_at_call 20; (with_reducible refine (calepinref04_Put.calls k4 (rdOf ByteArray.empty (rd_L5 l0 x24_1) x50_4) t295 _ A24.out).mono ?_); rintro e w' ⟨rfl, ⟨nd, rfl⟩⟩; (try first | exact ⟨rfl, _, World.drewN_drewN _ _ _⟩ | exact ⟨rfl, _, Eq.trans (World.drewN_drewN _ _ _) (congrArg (World.drewN _) (Nat.add_assoc _ _ _))⟩))); try go_wp2_with (first | (go_at_call 17; (with_reducible refine (value_PutText.calls (rdOf ByteArray.empty (rd_L5 l0 x24_1) x50_4) t291 _ A21.out).mono ?_); rintro e w31 ⟨rfl, hb⟩; have n0_ := Aside0.mk (below_step (by repeat (first | (with_reducible first | exact HB.out | apply below_alloc | apply pw_below_drewN | apply below_drew1) | exact HB.out)) hb); clear HB; have HB := n0_; clear n0_; (try clear hb); (try clear hb2); (try clear hk); (try clear hi)) | (go_at_call 10; (with_reducible refine (value_Text.calls t291 t292 t293 _ A22.out).mono ?_); rintro e w32 ⟨rfl, hb⟩; have n0_ := Aside0.mk (below_step (by repeat (first | (with_reducible first | exact HB.out | apply below_alloc | apply pw_below_drewN | apply below_drew1) | exact HB.out)) hb); clear HB; have HB := n0_; clear n0_; (try clear hb); (try clear hb2); (try clear hk); (try clear hi)) | (go_at_call 17; (with_reducible refine (value_PutText.calls (rdOf ByteArray.empty (rd_L5 l0 x24_1) x50_4) t291 _ A23.out).mono ?_); rintro e w33 ⟨rfl, hb⟩; have n0_ := Aside0.mk (below_step (by repeat (first | (with_reducible first | exact HB.out | apply below_alloc | apply pw_below_drewN | apply below_drew1) | exact HB.out)) hb); clear HB; have HB := n0_; clear n0_; (try clear hb); (try clear hb2); (try clear hk); (try clear hi)) | (go_at_call 20; (with_reducible refine (calepinref04_Put.calls k4 (rdOf ByteArray.empty (rd_L5 l0 x24_1) x50_4) t295 _ A24.out).mono ?_); rintro e w' ⟨rfl, ⟨nd, rfl⟩⟩; (try first | exact ⟨rfl, _, World.drewN_drewN _ _ _⟩ | exact ⟨rfl, _, Eq.trans (World.drewN_drewN _ _ _) (congrArg (World.drewN _) (Nat.add_assoc _ _ _))⟩))))
                                          go_ret
                                          exact ⟨by first | rfl | (simp [errW_none, errW_some] <;> rfl) | (simp [*, errW_none, errW_some] <;> rfl), by repeat (first | (with_reducible first | exact HB.out | apply below_alloc | apply pw_below_drewN | apply below_drew1) | exact HB.out)⟩
                                      · rw [if_neg c26] at H
                                        have c26b0 : (t292.toList == (rdOf ByteArray.empty (rd_L5 l0 x24_1) x50_4).toList) = false := beq_eq_false_iff_ne.mpr c26
                                        have c26b1 : (t292.toList != (rdOf ByteArray.empty (rd_L5 l0 x24_1) x50_4).toList) = true := bne_iff_ne.mpr c26
                                        obtain rfl := Option.some.inj H
                                        have p290 : 0 ≤ (x50_4 : Int) := of_decide_eq_true (by first | (with_reducible assumption) | assumption)
                                        have q290 : x50_4 < ((rd_L5 l0 x24_1).length : Int) := of_decide_eq_true (by first | (with_reducible assumption) | assumption)
                                        obtain ⟨ad290, e290, hx290_0⟩ := Kd.at_string HR287_0.out x50_4 p290 q290
                                        cases e290
                                        replace hx290_0 := (HB.out.cell (World.block_lt_of_cell? w _ hx290_0)).trans hx290_0
                                        replace p290 := eq_true p290
                                        replace q290 := eq_true q290
                                        go_wp2_with (first | (go_at_call 17; (with_reducible refine (value_PutText.calls (rdOf ByteArray.empty (rd_L5 l0 x24_1) x50_4) t291 _ A21.out).mono ?_); rintro e w34 ⟨rfl, hb⟩; have n0_ := Aside0.mk (below_step (by repeat (first | (with_reducible first | exact HB.out | apply below_alloc | apply pw_below_drewN | apply below_drew1) | exact HB.out)) hb); clear HB; have HB := n0_; clear n0_; (try clear hb); (try clear hb2); (try clear hk); (try clear hi)) | (go_at_call 10; (with_reducible refine (value_Text.calls t291 t292 t293 _ A22.out).mono ?_); rintro e w35 ⟨rfl, hb⟩; have n0_ := Aside0.mk (below_step (by repeat (first | (with_reducible first | exact HB.out | apply below_alloc | apply pw_below_drewN | apply below_drew1) | exact HB.out)) hb); clear HB; have HB := n0_; clear n0_; (try clear hb); (try clear hb2); (try clear hk); (try clear hi)) | (go_at_call 17; (with_reducible refine (value_PutText.calls (rdOf ByteArray.empty (rd_L5 l0 x24_1) x50_4) t291 _ A23.out).mono ?_); rintro e w36 ⟨rfl, hb⟩; have n0_ := Aside0.mk (below_step (by repeat (first | (with_reducible first | exact HB.out | apply below_alloc | apply pw_below_drewN | apply below_drew1) | exact HB.out)) hb); clear HB; have HB := n0_; clear n0_; (try clear hb); (try clear hb2); (try clear hk); (try clear hi)) | (go_at_call 20; (with_reducible refine (calepinref04_Put.calls k4 (rdOf ByteArray.empty (rd_L5 l0 x24_1) x50_4) t295 _ A24.out).mono ?_); rintro e w' ⟨rfl, ⟨nd, rfl⟩⟩; (try first | exact ⟨rfl, _, World.drewN_drewN _ _ _⟩ | exact ⟨rfl, _, Eq.trans (World.drewN_drewN _ _ _) (congrArg (World.drewN _) (Nat.add_assoc _ _ _))⟩)))
                                        repeat (go_quiet (first | (go_at_call 17; (with_reducible refine (value_PutText.calls (rdOf ByteArray.empty (rd_L5 l0 x24_1) x50_4) t291 _ A21.out).mono ?_); rintro e w34 ⟨rfl, hb⟩; have n0_ := Aside0.mk (below_step (by repeat (first | (with_reducible first | exact HB.out | apply below_alloc | apply pw_below_drewN | apply below_drew1) | exact HB.out)) hb); clear HB; have HB := n0_; clear n0_; (try clear hb); (try clear hb2); (try clear hk); (try clear hi)) | (go_at_call 10; (with_reducible refine (value_Text.calls t291 t292 t293 _ A22.out).mono ?_); rintro e w35 ⟨rfl, hb⟩; have n0_ := Aside0.mk (below_step (by repeat (first | (with_reducible first | exact HB.out | apply below_alloc | apply pw_below_drewN | apply below_drew1) | exact HB.out)) hb); clear HB; have HB := n0_; clear n0_; (try clear hb); (try clear hb2); (try clear hk); (try clear hi)) | (go_at_call 17; (with_reducible refine (value_PutText.calls (rdOf ByteArray.empty (rd_L5 l0 x24_1) x50_4) t291 _ A23.out).mono ?_); rintro e w36 ⟨rfl, hb⟩; have n0_ := Aside0.mk (below_step (by repeat (first | (with_reducible first | exact HB.out | apply below_alloc | apply pw_below_drewN | apply below_drew1) | exact HB.out)) hb); clear HB; have HB := n0_; clear n0_; (try clear hb); (try clear hb2); (try clear hk); (try clear hi)) | (go_at_call 20; (with_reducible refine (calepinref04_Put.calls k4 (rdOf ByteArray.empty (rd_L5 l0 x24_1) x50_4) t295 _ A24.out).mono ?_); rintro e w' ⟨rfl, ⟨nd, rfl⟩⟩; (try first | exact ⟨rfl, _, World.drewN_drewN _ _ _⟩ | exact ⟨rfl, _, Eq.trans (World.drewN_drewN _ _ _) (congrArg (World.drewN _) (Nat.add_assoc _ _ _))⟩))); try go_wp2_with (first | (go_at_call 17; (with_reducible refine (value_PutText.calls (rdOf ByteArray.empty (rd_L5 l0 x24_1) x50_4) t291 _ A21.out).mono ?_); rintro e w34 ⟨rfl, hb⟩; have n0_ := Aside0.mk (below_step (by repeat (first | (with_reducible first | exact HB.out | apply below_alloc | apply pw_below_drewN | apply below_drew1) | exact HB.out)) hb); clear HB; have HB := n0_; clear n0_; (try clear hb); (try clear hb2); (try clear hk); (try clear hi)) | (go_at_call 10; (with_reducible refine (value_Text.calls t291 t292 t293 _ A22.out).mono ?_); rintro e w35 ⟨rfl, hb⟩; have n0_ := Aside0.mk (below_step (by repeat (first | (with_reducible first | exact HB.out | apply below_alloc | apply pw_below_drewN | apply below_drew1) | exact HB.out)) hb); clear HB; have HB := n0_; clear n0_; (try clear hb); (try clear hb2); (try clear hk); (try clear hi)) | (go_at_call 17; (with_reducible refine (value_PutText.calls (rdOf ByteArray.empty (rd_L5 l0 x24_1) x50_4) t291 _ A23.out).mono ?_); rintro e w36 ⟨rfl, hb⟩; have n0_ := Aside0.mk (below_step (by repeat (first | (with_reducible first | exact HB.out | apply below_alloc | apply pw_below_drewN | apply below_drew1) | exact HB.out)) hb); clear HB; have HB := n0_; clear n0_; (try clear hb); (try clear hb2); (try clear hk); (try clear hi)) | (go_at_call 20; (with_reducible refine (calepinref04_Put.calls k4 (rdOf ByteArray.empty (rd_L5 l0 x24_1) x50_4) t295 _ A24.out).mono ?_); rintro e w' ⟨rfl, ⟨nd, rfl⟩⟩; (try first | exact ⟨rfl, _, World.drewN_drewN _ _ _⟩ | exact ⟨rfl, _, Eq.trans (World.drewN_drewN _ _ _) (congrArg (World.drewN _) (Nat.add_assoc _ _ _))⟩))))
                                        go_ret
                                        exact ⟨by first | rfl | (simp [errW_none, errW_some] <;> rfl) | (simp [*, errW_none, errW_some] <;> rfl), by repeat (first | (with_reducible first | exact HB.out | apply below_alloc | apply pw_below_drewN | apply below_drew1) | exact HB.out)⟩
                                    · rw [if_neg c25] at H
                                      have c25b0 : (t291.toList == t295.toList) = false := beq_eq_false_iff_ne.mpr c25
                                      have c25b1 : (t291.toList != t295.toList) = true := bne_iff_ne.mpr c25
                                      obtain rfl := Option.some.inj H
                                      have p290 : 0 ≤ (x50_4 : Int) := of_decide_eq_true (by first | (with_reducible assumption) | assumption)
                                      have q290 : x50_4 < ((rd_L5 l0 x24_1).length : Int) := of_decide_eq_true (by first | (with_reducible assumption) | assumption)
                                      obtain ⟨ad290, e290, hx290_0⟩ := Kd.at_string HR287_0.out x50_4 p290 q290
                                      cases e290
                                      replace hx290_0 := (HB.out.cell (World.block_lt_of_cell? w _ hx290_0)).trans hx290_0
                                      replace p290 := eq_true p290
                                      replace q290 := eq_true q290
                                      go_wp2_with (first | (go_at_call 17; (with_reducible refine (value_PutText.calls (rdOf ByteArray.empty (rd_L5 l0 x24_1) x50_4) t291 _ A21.out).mono ?_); rintro e w37 ⟨rfl, hb⟩; have n0_ := Aside0.mk (below_step (by repeat (first | (with_reducible first | exact HB.out | apply below_alloc | apply pw_below_drewN | apply below_drew1) | exact HB.out)) hb); clear HB; have HB := n0_; clear n0_; (try clear hb); (try clear hb2); (try clear hk); (try clear hi)) | (go_at_call 10; (with_reducible refine (value_Text.calls t291 t292 t293 _ A22.out).mono ?_); rintro e w38 ⟨rfl, hb⟩; have n0_ := Aside0.mk (below_step (by repeat (first | (with_reducible first | exact HB.out | apply below_alloc | apply pw_below_drewN | apply below_drew1) | exact HB.out)) hb); clear HB; have HB := n0_; clear n0_; (try clear hb); (try clear hb2); (try clear hk); (try clear hi)) | (go_at_call 17; (with_reducible refine (value_PutText.calls (rdOf ByteArray.empty (rd_L5 l0 x24_1) x50_4) t291 _ A23.out).mono ?_); rintro e w39 ⟨rfl, hb⟩; have n0_ := Aside0.mk (below_step (by repeat (first | (with_reducible first | exact HB.out | apply below_alloc | apply pw_below_drewN | apply below_drew1) | exact HB.out)) hb); clear HB; have HB := n0_; clear n0_; (try clear hb); (try clear hb2); (try clear hk); (try clear hi)) | (go_at_call 20; (with_reducible refine (calepinref04_Put.calls k4 (rdOf ByteArray.empty (rd_L5 l0 x24_1) x50_4) t295 _ A24.out).mono ?_); rintro e w' ⟨rfl, ⟨nd, rfl⟩⟩; (try first | exact ⟨rfl, _, World.drewN_drewN _ _ _⟩ | exact ⟨rfl, _, Eq.trans (World.drewN_drewN _ _ _) (congrArg (World.drewN _) (Nat.add_assoc _ _ _))⟩)))
                                      repeat (go_quiet (first | (go_at_call 17; (with_reducible refine (value_PutText.calls (rdOf ByteArray.empty (rd_L5 l0 x24_1) x50_4) t291 _ A21.out).mono ?_); rintro e w37 ⟨rfl, hb⟩; have n0_ := Aside0.mk (below_step (by repeat (first | (with_reducible first | exact HB.out | apply below_alloc | apply pw_below_drewN | apply below_drew1) | exact HB.out)) hb); clear HB; have HB := n0_; clear n0_; (try clear hb); (try clear hb2); (try clear hk); (try clear hi)) | (go_at_call 10; (with_reducible refine (value_Text.calls t291 t292 t293 _ A22.out).mono ?_); rintro e w38 ⟨rfl, hb⟩; have n0_ := Aside0.mk (below_step (by repeat (first | (with_reducible first | exact HB.out | apply below_alloc | apply pw_below_drewN | apply below_drew1) | exact HB.out)) hb); clear HB; have HB := n0_; clear n0_; (try clear hb); (try clear hb2); (try clear hk); (try clear hi)) | (go_at_call 17; (with_reducible refine (value_PutText.calls (rdOf ByteArray.empty (rd_L5 l0 x24_1) x50_4) t291 _ A23.out).mono ?_); rintro e w39 ⟨rfl, hb⟩; have n0_ := Aside0.mk (below_step (by repeat (first | (with_reducible first | exact HB.out | apply below_alloc | apply pw_below_drewN | apply below_drew1) | exact HB.out)) hb); clear HB; have HB := n0_; clear n0_; (try clear hb); (try clear hb2); (try clear hk); (try clear hi)) | (go_at_call 20; (with_reducible refine (calepinref04_Put.calls k4 (rdOf ByteArray.empty (rd_L5 l0 x24_1) x50_4) t295 _ A24.out).mono ?_); rintro e w' ⟨rfl, ⟨nd, rfl⟩⟩; (try first | exact ⟨rfl, _, World.drewN_drewN _ _ _⟩ | exact ⟨rfl, _, Eq.trans (World.drewN_drewN _ _ _) (congrArg (World.drewN _) (Nat.add_assoc _ _ _))⟩))); try go_wp2_with (first | (go_at_call 17; (with_reducible refine (value_PutText.calls (rdOf ByteArray.empty (rd_L5 l0 x24_1) x50_4) t291 _ A21.out).mono ?_); rintro e w37 ⟨rfl, hb⟩; have n0_ := Aside0.mk (below_step (by repeat (first | (with_reducible first | exact HB.out | apply below_alloc | apply pw_below_drewN | apply below_drew1) | exact HB.out)) hb); clear HB; have HB := n0_; clear n0_; (try clear hb); (try clear hb2); (try clear hk); (try clear hi)) | (go_at_call 10; (with_reducible refine (value_Text.calls t291 t292 t293 _ A22.out).mono ?_); rintro e w38 ⟨rfl, hb⟩; have n0_ := Aside0.mk (below_step (by repeat (first | (with_reducible first | exact HB.out | apply below_alloc | apply pw_below_drewN | apply below_drew1) | exact HB.out)) hb); clear HB; have HB := n0_; clear n0_; (try clear hb); (try clear hb2); (try clear hk); (try clear hi)) | (go_at_call 17; (with_reducible refine (value_PutText.calls (rdOf ByteArray.empty (rd_L5 l0 x24_1) x50_4) t291 _ A23.out).mono ?_); rintro e w39 ⟨rfl, hb⟩; have n0_ := Aside0.mk (below_step (by repeat (first | (with_reducible first | exact HB.out | apply below_alloc | apply pw_below_drewN | apply below_drew1) | exact HB.out)) hb); clear HB; have HB := n0_; clear n0_; (try clear hb); (try clear hb2); (try clear hk); (try clear hi)) | (go_at_call 20; (with_reducible refine (calepinref04_Put.calls k4 (rdOf ByteArray.empty (rd_L5 l0 x24_1) x50_4) t295 _ A24.out).mono ?_); rintro e w' ⟨rfl, ⟨nd, rfl⟩⟩; (try first | exact ⟨rfl, _, World.drewN_drewN _ _ _⟩ | exact ⟨rfl, _, Eq.trans (World.drewN_drewN _ _ _) (congrArg (World.drewN _) (Nat.add_assoc _ _ _))⟩))))
                                      go_ret
                                      exact ⟨by first | rfl | (simp [errW_none, errW_some] <;> rfl) | (simp [*, errW_none, errW_some] <;> rfl), by repeat (first | (with_reducible first | exact HB.out | apply below_alloc | apply pw_below_drewN | apply below_drew1) | exact HB.out)⟩
                                  · rw [if_neg c20] at H
                                    exact absurd H (by simp)
                                · rw [if_neg c19] at H
                                  exact absurd H (by simp)
                              · rw [if_neg c18] at H
                                have c18b0 : decide (x50_4 < ((rd_L5 l0 x24_1).length : Int)) = false := decide_eq_false c18
                                clear c18
                                by_cases c40 : ((rd_L5 l0 x24_1).length : Int) > 0
                                · rw [if_pos c40] at H
                                  have c40b0 : decide (0 < ((rd_L5 l0 x24_1).length : Int)) = true := decide_eq_true c40
                                  have c40b1 : decide (0 < (rd_L5 l0 x24_1).length) = true := decide_eq_true (by omega)
                                  clear c40
                                  replace H := Option.bind_eq_some_iff.mp H
                                  obtain ⟨⟨t296, t297⟩, A410, H⟩ := H
                                  replace H : (if t297 = 0 then ((calepinref04_Same.f k4 t296 (rd_L5 l0 x24_1)).bind fun t300 => (if t300 = true then (calepinlaw04_ValueWrites.l0 k4 l0 (x3_7 ++ t288) x4_12 l0 (l0.length : Int) (wrap64 (x24_1 + 1))) else (some false))) else (some false)) = some r := H
                                  have A41 := Aside0.mk A410
                                  clear A410
                                  by_cases c42 : t297 = 0
                                  · rw [if_pos c42] at H
                                    have c42b0 : (t297 == 0) = true := beq_iff_eq.mpr c42
                                    have c42b1 : (t297 != 0) = false := bne_eq_false_iff_eq.mpr c42
                                    clear c42
                                    replace H := Option.bind_eq_some_iff.mp H
                                    obtain ⟨t300, A430, H⟩ := H
                                    replace H : (if t300 = true then (calepinlaw04_ValueWrites.l0 k4 l0 (x3_7 ++ t288) x4_12 l0 (l0.length : Int) (wrap64 (x24_1 + 1))) else (some false)) = some r := H
                                    have A43 := Aside0.mk A430
                                    clear A430
                                    by_cases c44 : t300 = true
                                    · subst c44
                                      have H1 : (calepinlaw04_ValueWrites.l0 k4 l0 (x3_7 ++ t288) x4_12 l0 (l0.length : Int) (wrap64 (x24_1 + 1))) = some r := by rw [if_pos rfl] at H; exact H
                                      clear H
                                      have H := H1
                                      clear H1
                                      have H' := Aside0.mk H
                                      clear H
                                      go_wp2_with (first | (go_at_call 11; (with_reducible refine (value_List.calls t288 t296 t297 _ A41.out).mono ?_); rintro e w45 ⟨v298, rfl, ho0, hb⟩; have n0_ := Aside0.mk (Kd.R_lower ho0 (below_size (by repeat (first | (with_reducible first | exact HB.out | apply below_alloc | apply pw_below_drewN | apply below_drew1) | exact HB.out)))); have n1_ := Aside0.mk (below_step (by repeat (first | (with_reducible first | exact HB.out | apply below_alloc | apply pw_below_drewN | apply below_drew1) | exact HB.out)) hb); clear HB; have HO299 := n0_; have HB := n1_; clear n0_ n1_; (try clear hb); (try clear hb2); (try clear hk); (try clear hi); (try clear ho0); obtain ⟨Ao46, co46, eo46⟩ := Kd.R_slice HO299.out; subst eo46) | (go_at_call 16; (with_reducible refine (calepinref04_Same.calls k4 _ _ t296 _ _ (rd_L5 l0 x24_1) true _ ?side1 ?side2 ?side3 ?side4 A43.out).mono ?_); (case side1 => repeat (first | exact (Kd.R_reads' HO299.out).2.2 | (with_reducible refine Kd.C_alloc ?_ _) | (with_reducible refine Kd.C_drewN ?_ _) | (with_reducible refine Kd.C_drew ?_))); (case side2 => exact (Kd.R_reads' HO299.out).2.1); (case side3 => repeat (first | exact (Kd.C_below HR287_0.out HB.out) | (with_reducible refine Kd.C_alloc ?_ _) | (with_reducible refine Kd.C_drewN ?_ _) | (with_reducible refine Kd.C_drew ?_))); (case side4 => exact HC287_0.out); rintro e w' ⟨rfl, ⟨nd, rfl⟩⟩; (try first | exact ⟨rfl, _, World.drewN_drewN _ _ _⟩ | exact ⟨rfl, _, Eq.trans (World.drewN_drewN _ _ _) (congrArg (World.drewN _) (Nat.add_assoc _ _ _))⟩)))
                                      repeat (go_quiet (first | (go_at_call 11; (with_reducible refine (value_List.calls t288 t296 t297 _ A41.out).mono ?_); rintro e w45 ⟨v298, rfl, ho0, hb⟩; have n0_ := Aside0.mk (Kd.R_lower ho0 (below_size (by repeat (first | (with_reducible first | exact HB.out | apply below_alloc | apply pw_below_drewN | apply below_drew1) | exact HB.out)))); have n1_ := Aside0.mk (below_step (by repeat (first | (with_reducible first | exact HB.out | apply below_alloc | apply pw_below_drewN | apply below_drew1) | exact HB.out)) hb); clear HB; have HO299 := n0_; have HB := n1_; clear n0_ n1_; (try clear hb); (try clear hb2); (try clear hk); (try clear hi); (try clear ho0); obtain ⟨Ao46, co46, eo46⟩ := Kd.R_slice HO299.out; subst eo46) | (go_at_call 16; (with_reducible refine (calepinref04_Same.calls k4 _ _ t296 _ _ (rd_L5 l0 x24_1) true _ ?side1 ?side2 ?side3 ?side4 A43.out).mono ?_); (case side1 => repeat (first | exact (Kd.R_reads' HO299.out).2.2 | (with_reducible refine Kd.C_alloc ?_ _) | (with_reducible refine Kd.C_drewN ?_ _) | (with_reducible refine Kd.C_drew ?_))); (case side2 => exact (Kd.R_reads' HO299.out).2.1); (case side3 => repeat (first | exact (Kd.C_below HR287_0.out HB.out) | (with_reducible refine Kd.C_alloc ?_ _) | (with_reducible refine Kd.C_drewN ?_ _) | (with_reducible refine Kd.C_drew ?_))); (case side4 => exact HC287_0.out); rintro e w' ⟨rfl, ⟨nd, rfl⟩⟩; (try first | exact ⟨rfl, _, World.drewN_drewN _ _ _⟩ | exact ⟨rfl, _, Eq.trans (World.drewN_drewN _ _ _) (congrArg (World.drewN _) (Nat.add_assoc _ _ _))⟩))); try go_wp2_with (first | (go_at_call 11; (with_reducible refine (value_List.calls t288 t296 t297 _ A41.out).mono ?_); rintro e w45 ⟨v298, rfl, ho0, hb⟩; have n0_ := Aside0.mk (Kd.R_lower ho0 (below_size (by repeat (first | (with_reducible first | exact HB.out | apply below_alloc | apply pw_below_drewN | apply below_drew1) | exact HB.out)))); have n1_ := Aside0.mk (below_step (by repeat (first | (with_reducible first | exact HB.out | apply below_alloc | apply pw_below_drewN | apply below_drew1) | exact HB.out)) hb); clear HB; have HO299 := n0_; have HB := n1_; clear n0_ n1_; (try clear hb); (try clear hb2); (try clear hk); (try clear hi); (try clear ho0); obtain ⟨Ao46, co46, eo46⟩ := Kd.R_slice HO299.out; subst eo46) | (go_at_call 16; (with_reducible refine (calepinref04_Same.calls k4 _ _ t296 _ _ (rd_L5 l0 x24_1) true _ ?side1 ?side2 ?side3 ?side4 A43.out).mono ?_); (case side1 => repeat (first | exact (Kd.R_reads' HO299.out).2.2 | (with_reducible refine Kd.C_alloc ?_ _) | (with_reducible refine Kd.C_drewN ?_ _) | (with_reducible refine Kd.C_drew ?_))); (case side2 => exact (Kd.R_reads' HO299.out).2.1); (case side3 => repeat (first | exact (Kd.C_below HR287_0.out HB.out) | (with_reducible refine Kd.C_alloc ?_ _) | (with_reducible refine Kd.C_drewN ?_ _) | (with_reducible refine Kd.C_drew ?_))); (case side4 => exact HC287_0.out); rintro e w' ⟨rfl, ⟨nd, rfl⟩⟩; (try first | exact ⟨rfl, _, World.drewN_drewN _ _ _⟩ | exact ⟨rfl, _, Eq.trans (World.drewN_drewN _ _ _) (congrArg (World.drewN _) (Nat.add_assoc _ _ _))⟩))))
                                      go_roundg k4
                                      case measure => have := HK1.out; have := HJ7.out; have := HJ12.out; have := HK4.out; omega
                                      case rel => exact ⟨((x3_7 ++ t288)), (x4_12), (wrap64 (x24_1 + 1)), (by first | rfl | (simp; done) | (simp [*]; done)), (by first | rfl | (simp; done) | (simp [*]; done)), (by first | rfl | (simp; done) | (simp [*]; done)), H', ⟨by have := HK1.out; have := HJ7.out; have := HJ12.out; have := HK4.out; omega⟩, ⟨by repeat (first | (with_reducible first | exact HB.out | apply below_alloc | apply pw_below_drewN | apply below_drew1) | exact HB.out)⟩⟩
                                    · replace c44 := Bool.eq_false_iff.mpr c44
                                      subst c44
                                      have H1 : (some false) = some r := by rw [if_neg (show ¬ (false = true) by decide)] at H; exact H
                                      clear H
                                      have H := H1
                                      clear H1
                                      obtain rfl := Option.some.inj H
                                      go_wp2_with (first | (go_at_call 11; (with_reducible refine (value_List.calls t288 t296 t297 _ A41.out).mono ?_); rintro e w47 ⟨v298, rfl, ho0, hb⟩; have n0_ := Aside0.mk (Kd.R_lower ho0 (below_size (by repeat (first | (with_reducible first | exact HB.out | apply below_alloc | apply pw_below_drewN | apply below_drew1) | exact HB.out)))); have n1_ := Aside0.mk (below_step (by repeat (first | (with_reducible first | exact HB.out | apply below_alloc | apply pw_below_drewN | apply below_drew1) | exact HB.out)) hb); clear HB; have HO299 := n0_; have HB := n1_; clear n0_ n1_; (try clear hb); (try clear hb2); (try clear hk); (try clear hi); (try clear ho0); obtain ⟨Ao48, co48, eo48⟩ := Kd.R_slice HO299.out; subst eo48) | (go_at_call 16; (with_reducible refine (calepinref04_Same.calls k4 _ _ t296 _ _ (rd_L5 l0 x24_1) false _ ?side1 ?side2 ?side3 ?side4 A43.out).mono ?_); (case side1 => repeat (first | exact (Kd.R_reads' HO299.out).2.2 | (with_reducible refine Kd.C_alloc ?_ _) | (with_reducible refine Kd.C_drewN ?_ _) | (with_reducible refine Kd.C_drew ?_))); (case side2 => exact (Kd.R_reads' HO299.out).2.1); (case side3 => repeat (first | exact (Kd.C_below HR287_0.out HB.out) | (with_reducible refine Kd.C_alloc ?_ _) | (with_reducible refine Kd.C_drewN ?_ _) | (with_reducible refine Kd.C_drew ?_))); (case side4 => exact HC287_0.out); rintro e w' ⟨rfl, ⟨nd, rfl⟩⟩; (try first | exact ⟨rfl, _, World.drewN_drewN _ _ _⟩ | exact ⟨rfl, _, Eq.trans (World.drewN_drewN _ _ _) (congrArg (World.drewN _) (Nat.add_assoc _ _ _))⟩)))
                                      repeat (go_quiet (first | (go_at_call 11; (with_reducible refine (value_List.calls t288 t296 t297 _ A41.out).mono ?_); rintro e w47 ⟨v298, rfl, ho0, hb⟩; have n0_ := Aside0.mk (Kd.R_lower ho0 (below_size (by repeat (first | (with_reducible first | exact HB.out | apply below_alloc | apply pw_below_drewN | apply below_drew1) | exact HB.out)))); have n1_ := Aside0.mk (below_step (by repeat (first | (with_reducible first | exact HB.out | apply below_alloc | apply pw_below_drewN | apply below_drew1) | exact HB.out)) hb); clear HB; have HO299 := n0_; have HB := n1_; clear n0_ n1_; (try clear hb); (try clear hb2); (try clear hk); (try clear hi); (try clear ho0); obtain ⟨Ao48, co48, eo48⟩ := Kd.R_slice HO299.out; subst eo48) | (go_at_call 16; (with_reducible refine (calepinref04_Same.calls k4 _ _ t296 _ _ (rd_L5 l0 x24_1) false _ ?side1 ?side2 ?side3 ?side4 A43.out).mono ?_); (case side1 => repeat (first | exact (Kd.R_reads' HO299.out).2.2 | (with_reducible refine Kd.C_alloc ?_ _) | (with_reducible refine Kd.C_drewN ?_ _) | (with_reducible refine Kd.C_drew ?_))); (case side2 => exact (Kd.R_reads' HO299.out).2.1); (case side3 => repeat (first | exact (Kd.C_below HR287_0.out HB.out) | (with_reducible refine Kd.C_alloc ?_ _) | (with_reducible refine Kd.C_drewN ?_ _) | (with_reducible refine Kd.C_drew ?_))); (case side4 => exact HC287_0.out); rintro e w' ⟨rfl, ⟨nd, rfl⟩⟩; (try first | exact ⟨rfl, _, World.drewN_drewN _ _ _⟩ | exact ⟨rfl, _, Eq.trans (World.drewN_drewN _ _ _) (congrArg (World.drewN _) (Nat.add_assoc _ _ _))⟩))); try go_wp2_with (first | (go_at_call 11; (with_reducible refine (value_List.calls t288 t296 t297 _ A41.out).mono ?_); rintro e w47 ⟨v298, rfl, ho0, hb⟩; have n0_ := Aside0.mk (Kd.R_lower ho0 (below_size (by repeat (first | (with_reducible first | exact HB.out | apply below_alloc | apply pw_below_drewN | apply below_drew1) | exact HB.out)))); have n1_ := Aside0.mk (below_step (by repeat (first | (with_reducible first | exact HB.out | apply below_alloc | apply pw_below_drewN | apply below_drew1) | exact HB.out)) hb); clear HB; have HO299 := n0_; have HB := n1_; clear n0_ n1_; (try clear hb); (try clear hb2); (try clear hk); (try clear hi); (try clear ho0); obtain ⟨Ao48, co48, eo48⟩ := Kd.R_slice HO299.out; subst eo48) | (go_at_call 16; (with_reducible refine (calepinref04_Same.calls k4 _ _ t296 _ _ (rd_L5 l0 x24_1) false _ ?side1 ?side2 ?side3 ?side4 A43.out).mono ?_); (case side1 => repeat (first | exact (Kd.R_reads' HO299.out).2.2 | (with_reducible refine Kd.C_alloc ?_ _) | (with_reducible refine Kd.C_drewN ?_ _) | (with_reducible refine Kd.C_drew ?_))); (case side2 => exact (Kd.R_reads' HO299.out).2.1); (case side3 => repeat (first | exact (Kd.C_below HR287_0.out HB.out) | (with_reducible refine Kd.C_alloc ?_ _) | (with_reducible refine Kd.C_drewN ?_ _) | (with_reducible refine Kd.C_drew ?_))); (case side4 => exact HC287_0.out); rintro e w' ⟨rfl, ⟨nd, rfl⟩⟩; (try first | exact ⟨rfl, _, World.drewN_drewN _ _ _⟩ | exact ⟨rfl, _, Eq.trans (World.drewN_drewN _ _ _) (congrArg (World.drewN _) (Nat.add_assoc _ _ _))⟩))))
                                      go_ret
                                      exact ⟨by first | rfl | (simp [errW_none, errW_some] <;> rfl) | (simp [*, errW_none, errW_some] <;> rfl), by repeat (first | (with_reducible first | exact HB.out | apply below_alloc | apply pw_below_drewN | apply below_drew1) | exact HB.out)⟩
                                  · rw [if_neg c42] at H
                                    have c42b0 : (t297 == 0) = false := beq_eq_false_iff_ne.mpr c42
                                    have c42b1 : (t297 != 0) = true := bne_iff_ne.mpr c42
                                    obtain rfl := Option.some.inj H
                                    go_wp2_with (first | (go_at_call 11; (with_reducible refine (value_List.calls t288 t296 t297 _ A41.out).mono ?_); rintro e w49 ⟨v298, rfl, ho0, hb⟩; have n0_ := Aside0.mk (Kd.R_lower ho0 (below_size (by repeat (first | (with_reducible first | exact HB.out | apply below_alloc | apply pw_below_drewN | apply below_drew1) | exact HB.out)))); have n1_ := Aside0.mk (below_step (by repeat (first | (with_reducible first | exact HB.out | apply below_alloc | apply pw_below_drewN | apply below_drew1) | exact HB.out)) hb); clear HB; have HO299 := n0_; have HB := n1_; clear n0_ n1_; (try clear hb); (try clear hb2); (try clear hk); (try clear hi); (try clear ho0)))
                                    repeat (go_quiet (first | (go_at_call 11; (with_reducible refine (value_List.calls t288 t296 t297 _ A41.out).mono ?_); rintro e w49 ⟨v298, rfl, ho0, hb⟩; have n0_ := Aside0.mk (Kd.R_lower ho0 (below_size (by repeat (first | (with_reducible first | exact HB.out | apply below_alloc | apply pw_below_drewN | apply below_drew1) | exact HB.out)))); have n1_ := Aside0.mk (below_step (by repeat (first | (with_reducible first | exact HB.out | apply below_alloc | apply pw_below_drewN | apply below_drew1) | exact HB.out)) hb); clear HB; have HO299 := n0_; have HB := n1_; clear n0_ n1_; (try clear hb); (try clear hb2); (try clear hk); (try clear hi); (try clear ho0))); try go_wp2_with (first | (go_at_call 11; (with_reducible refine (value_List.calls t288 t296 t297 _ A41.out).mono ?_); rintro e w49 ⟨v298, rfl, ho0, hb⟩; have n0_ := Aside0.mk (Kd.R_lower ho0 (below_size (by repeat (first | (with_reducible first | exact HB.out | apply below_alloc | apply pw_below_drewN | apply below_drew1) | exact HB.out)))); have n1_ := Aside0.mk (below_step (by repeat (first | (with_reducible first | exact HB.out | apply below_alloc | apply pw_below_drewN | apply below_drew1) | exact HB.out)) hb); clear HB; have HO299 := n0_; have HB := n1_; clear n0_ n1_; (try clear hb); (try clear hb2); (try clear hk); (try clear hi); (try clear ho0))))
                                    go_ret
                                    exact ⟨by first | rfl | (simp [errW_none, errW_some] <;> rfl) | (simp [*, errW_none, errW_some] <;> rfl), by repeat (first | (with_reducible first | exact HB.out | apply below_alloc | apply pw_below_drewN | apply below_drew1) | exact HB.out)⟩
                                · rw [if_neg c40] at H
                                  have c40b0 : decide (0 < ((rd_L5 l0 x24_1).length : Int)) = false := decide_eq_false c40
                                  have c40b1 : decide (0 < (rd_L5 l0 x24_1).length) = false := decide_eq_false (by omega)
                                  clear c40
                                  have H' := Aside0.mk H
                                  clear H
                                  go_wp2
                                  repeat (go_quiet (fail); try go_wp2)
                                  go_roundg k4
                                  case measure => have := HK1.out; have := HJ7.out; have := HJ12.out; have := HK4.out; omega
                                  case rel => exact ⟨((x3_7 ++ t288)), (x4_12), (wrap64 (x24_1 + 1)), (by first | rfl | (simp; done) | (simp [*]; done)), (by first | rfl | (simp; done) | (simp [*]; done)), (by first | rfl | (simp; done) | (simp [*]; done)), H', ⟨by have := HK1.out; have := HJ7.out; have := HJ12.out; have := HK4.out; omega⟩, ⟨by repeat (first | (with_reducible first | exact HB.out | apply below_alloc | apply pw_below_drewN | apply below_drew1) | exact HB.out)⟩⟩
                        · rw [if_neg c16] at H
                          have c16b0 : (t289.toList == t288.toList) = false := beq_eq_false_iff_ne.mpr c16
                          have c16b1 : (t289.toList != t288.toList) = true := bne_iff_ne.mpr c16
                          obtain rfl := Option.some.inj H
                          go_wp2_with (first | (go_at_call 19; (with_reducible refine (value_PutList.calls kj12 _ _ (rd_L5 l0 x24_1) t289 _ ?side1 ?side2 A15.out).mono ?_); (case side1 => repeat (first | exact (Kd.C_below HR287_0.out HB.out) | (with_reducible refine Kd.C_alloc ?_ _) | (with_reducible refine Kd.C_drewN ?_ _) | (with_reducible refine Kd.C_drew ?_))); (case side2 => exact HC287_0.out); rintro e w50 ⟨rfl, hb⟩; have n0_ := Aside0.mk (below_step (by repeat (first | (with_reducible first | exact HB.out | apply below_alloc | apply pw_below_drewN | apply below_drew1) | exact HB.out)) hb); clear HB; have HB := n0_; clear n0_; (try clear hb); (try clear hb2); (try clear hk); (try clear hi)))
                          repeat (go_quiet (first | (go_at_call 19; (with_reducible refine (value_PutList.calls kj12 _ _ (rd_L5 l0 x24_1) t289 _ ?side1 ?side2 A15.out).mono ?_); (case side1 => repeat (first | exact (Kd.C_below HR287_0.out HB.out) | (with_reducible refine Kd.C_alloc ?_ _) | (with_reducible refine Kd.C_drewN ?_ _) | (with_reducible refine Kd.C_drew ?_))); (case side2 => exact HC287_0.out); rintro e w50 ⟨rfl, hb⟩; have n0_ := Aside0.mk (below_step (by repeat (first | (with_reducible first | exact HB.out | apply below_alloc | apply pw_below_drewN | apply below_drew1) | exact HB.out)) hb); clear HB; have HB := n0_; clear n0_; (try clear hb); (try clear hb2); (try clear hk); (try clear hi))); try go_wp2_with (first | (go_at_call 19; (with_reducible refine (value_PutList.calls kj12 _ _ (rd_L5 l0 x24_1) t289 _ ?side1 ?side2 A15.out).mono ?_); (case side1 => repeat (first | exact (Kd.C_below HR287_0.out HB.out) | (with_reducible refine Kd.C_alloc ?_ _) | (with_reducible refine Kd.C_drewN ?_ _) | (with_reducible refine Kd.C_drew ?_))); (case side2 => exact HC287_0.out); rintro e w50 ⟨rfl, hb⟩; have n0_ := Aside0.mk (below_step (by repeat (first | (with_reducible first | exact HB.out | apply below_alloc | apply pw_below_drewN | apply below_drew1) | exact HB.out)) hb); clear HB; have HB := n0_; clear n0_; (try clear hb); (try clear hb2); (try clear hk); (try clear hi))))
                          go_ret
                          exact ⟨by first | rfl | (simp [errW_none, errW_some] <;> rfl) | (simp [*, errW_none, errW_some] <;> rfl), by repeat (first | (with_reducible first | exact HB.out | apply below_alloc | apply pw_below_drewN | apply below_drew1) | exact HB.out)⟩
                  · rw [if_neg c12] at H
                    exact absurd H (by simp)
            · rw [if_neg c7] at H
              exact absurd H (by simp)
          · rw [if_neg c6] at H
            exact absurd H (by simp)
        · rw [if_neg c5] at H
          have c5b0 : decide (x24_1 < (l0.length : Int)) = false := decide_eq_false c5
          clear c5
          replace H := Option.bind_eq_some_iff.mp H
          obtain ⟨t301, A510, H⟩ := H
          replace H : (if t301.toList = x3_1.toList then (if x4_1 = true then ((value_Fields.f x3_1).bind fun bt302 => (if bt302.2 = 0 then (calepinlaw04_ValueWrites.j4 k1 l0 bt302.1 ((bt302.1.length : Int) != (l0.length : Int))) else (calepinlaw04_ValueWrites.j4 k1 l0 bt302.1 true))) else (some true)) else (some false)) = some r := H
          have A51 := Aside0.mk A510
          clear A510
          by_cases c52 : t301.toList = x3_1.toList
          · rw [if_pos c52] at H
            have c52b0 : (t301.toList == x3_1.toList) = true := beq_iff_eq.mpr c52
            have c52b1 : (t301.toList != x3_1.toList) = false := bne_eq_false_iff_eq.mpr c52
            clear c52
            by_cases c53 : x4_1 = true
            · subst c53
              have H1 : ((value_Fields.f x3_1).bind fun bt302 => (if bt302.2 = 0 then (calepinlaw04_ValueWrites.j4 k1 l0 bt302.1 ((bt302.1.length : Int) != (l0.length : Int))) else (calepinlaw04_ValueWrites.j4 k1 l0 bt302.1 true))) = some r := by rw [if_pos rfl] at H; exact H
              clear H
              have H := H1
              clear H1
              replace H := Option.bind_eq_some_iff.mp H
              obtain ⟨⟨t302, t303⟩, A540, H⟩ := H
              replace H : (if t303 = 0 then (calepinlaw04_ValueWrites.j4 k1 l0 t302 ((t302.length : Int) != (l0.length : Int))) else (calepinlaw04_ValueWrites.j4 k1 l0 t302 true)) = some r := H
              have A54 := Aside0.mk A540
              clear A540
              have HC55 := Aside0.mk H
              clear H
              go_upto_region 31 with (first | (go_at_call 21; (with_reducible refine (value_PutFields.calls k1 _ _ l0 t301 _ ?side1 ?side2 A51.out).mono ?_); (case side1 => repeat (first | exact (Kd.C_below HR0.out HB.out) | (with_reducible refine Kd.C_alloc ?_ _) | (with_reducible refine Kd.C_drewN ?_ _) | (with_reducible refine Kd.C_drew ?_))); (case side2 => exact HC0.out); rintro e w56 ⟨rfl, hb⟩; have n0_ := Aside0.mk (below_step (by repeat (first | (with_reducible first | exact HB.out | apply below_alloc | apply pw_below_drewN | apply below_drew1) | exact HB.out)) hb); clear HB; have HB := n0_; clear n0_; (try clear hb); (try clear hb2); (try clear hk); (try clear hi)) | (go_at_call 12; (with_reducible refine (value_Fields.calls x3_1 t302 t303 _ A54.out).mono ?_); rintro e w57 ⟨v304, rfl, ho0, hb⟩; have n0_ := Aside0.mk (Kd.S_lower ho0 (below_size (by repeat (first | (with_reducible first | exact HB.out | apply below_alloc | apply pw_below_drewN | apply below_drew1) | exact HB.out)))); have n1_ := Aside0.mk (below_step (by repeat (first | (with_reducible first | exact HB.out | apply below_alloc | apply pw_below_drewN | apply below_drew1) | exact HB.out)) hb); clear HB; have HO305 := n0_; have HB := n1_; clear n0_ n1_; (try clear hb); (try clear hb2); (try clear hk); (try clear hi); (try clear ho0)))
              repeat (go_quiet (first | (go_at_call 21; (with_reducible refine (value_PutFields.calls k1 _ _ l0 t301 _ ?side1 ?side2 A51.out).mono ?_); (case side1 => repeat (first | exact (Kd.C_below HR0.out HB.out) | (with_reducible refine Kd.C_alloc ?_ _) | (with_reducible refine Kd.C_drewN ?_ _) | (with_reducible refine Kd.C_drew ?_))); (case side2 => exact HC0.out); rintro e w56 ⟨rfl, hb⟩; have n0_ := Aside0.mk (below_step (by repeat (first | (with_reducible first | exact HB.out | apply below_alloc | apply pw_below_drewN | apply below_drew1) | exact HB.out)) hb); clear HB; have HB := n0_; clear n0_; (try clear hb); (try clear hb2); (try clear hk); (try clear hi)) | (go_at_call 12; (with_reducible refine (value_Fields.calls x3_1 t302 t303 _ A54.out).mono ?_); rintro e w57 ⟨v304, rfl, ho0, hb⟩; have n0_ := Aside0.mk (Kd.S_lower ho0 (below_size (by repeat (first | (with_reducible first | exact HB.out | apply below_alloc | apply pw_below_drewN | apply below_drew1) | exact HB.out)))); have n1_ := Aside0.mk (below_step (by repeat (first | (with_reducible first | exact HB.out | apply below_alloc | apply pw_below_drewN | apply below_drew1) | exact HB.out)) hb); clear HB; have HO305 := n0_; have HB := n1_; clear n0_ n1_; (try clear hb); (try clear hb2); (try clear hk); (try clear hi); (try clear ho0))); go_upto_region 31 with (first | (go_at_call 21; (with_reducible refine (value_PutFields.calls k1 _ _ l0 t301 _ ?side1 ?side2 A51.out).mono ?_); (case side1 => repeat (first | exact (Kd.C_below HR0.out HB.out) | (with_reducible refine Kd.C_alloc ?_ _) | (with_reducible refine Kd.C_drewN ?_ _) | (with_reducible refine Kd.C_drew ?_))); (case side2 => exact HC0.out); rintro e w56 ⟨rfl, hb⟩; have n0_ := Aside0.mk (below_step (by repeat (first | (with_reducible first | exact HB.out | apply below_alloc | apply pw_below_drewN | apply below_drew1) | exact HB.out)) hb); clear HB; have HB := n0_; clear n0_; (try clear hb); (try clear hb2); (try clear hk); (try clear hi)) | (go_at_call 12; (with_reducible refine (value_Fields.calls x3_1 t302 t303 _ A54.out).mono ?_); rintro e w57 ⟨v304, rfl, ho0, hb⟩; have n0_ := Aside0.mk (Kd.S_lower ho0 (below_size (by repeat (first | (with_reducible first | exact HB.out | apply below_alloc | apply pw_below_drewN | apply below_drew1) | exact HB.out)))); have n1_ := Aside0.mk (below_step (by repeat (first | (with_reducible first | exact HB.out | apply below_alloc | apply pw_below_drewN | apply below_drew1) | exact HB.out)) hb); clear HB; have HO305 := n0_; have HB := n1_; clear n0_ n1_; (try clear hb); (try clear hb2); (try clear hk); (try clear hi); (try clear ho0))))
              (try simp only [Act.put, List.setIfInBounds_toArray, List.set_cons_zero, List.set_cons_succ])
              go_cut [111] (fun v111 wc => ∃ (kq : Nat) (x111_54 : Bool), v111 = .bool x111_54 ∧ Aside0 (calepinlaw04_ValueWrites.j4 kq l0 t302 x111_54 = some r) ∧ Aside0 (kq ≤ k1) ∧ Aside0 (Kd.S (Kd.slice 9 Kd.string) 29 wc w.heap.size (fun _ => True) v304 t302) ∧ Aside0 (Below w.heap.size w wc))
              case first =>
                have H := HC55.out
                clear HC55
                by_cases c58 : t303 = 0
                · rw [if_pos c58] at H
                  have c58b0 : (t303 == 0) = true := beq_iff_eq.mpr c58
                  have c58b1 : (t303 != 0) = false := bne_eq_false_iff_eq.mpr c58
                  clear c58
                  (first | rw [c58b0] | (simp only [i64_w, i32_w]; rw [c58b0]) | skip)
                  have H' := Aside0.mk H
                  clear H
                  obtain ⟨Ao59, co59, eo59⟩ := Kd.S_slice HO305.out
                  subst eo59
                  go_wp2
                  repeat (go_quiet (fail); try go_wp2)
                  go_meet
                  case rel => exact ⟨_, (((t302.length : Int) != (l0.length : Int))), (by first | rfl | (simp; done) | (simp [*]; done)), H', ⟨by have := HK1.out; first | omega | exact Nat.le_refl _⟩, ⟨by (with_reducible repeat (first | apply Kd.S_alloc | apply Kd.S_drewN | apply Kd.S_drew)); exact HO305.out⟩, ⟨by repeat (first | (with_reducible first | exact HB.out | apply below_alloc | apply pw_below_drewN | apply below_drew1) | exact HB.out)⟩⟩
                · rw [if_neg c58] at H
                  have c58b0 : (t303 == 0) = false := beq_eq_false_iff_ne.mpr c58
                  have c58b1 : (t303 != 0) = true := bne_iff_ne.mpr c58
                  (first | rw [c58b0] | (simp only [i64_w, i32_w]; rw [c58b0]) | skip)
                  have H' := Aside0.mk H
                  clear H
                  go_wp2
                  repeat (go_quiet (fail); try go_wp2)
                  go_meet
                  case rel => exact ⟨_, (true), (by first | rfl | (simp; done) | (simp [*]; done)), H', ⟨by have := HK1.out; first | omega | exact Nat.le_refl _⟩, ⟨by (with_reducible repeat (first | apply Kd.S_alloc | apply Kd.S_drewN | apply Kd.S_drew)); exact HO305.out⟩, ⟨by repeat (first | (with_reducible first | exact HB.out | apply below_alloc | apply pw_below_drewN | apply below_drew1) | exact HB.out)⟩⟩
              case rest =>
                clear HC55
                try clear c1
                try clear c2
                try clear p2
                try clear q2
                try clear hx2
                try clear c3
                try clear c4
                try clear c5
                try clear c5b0
                try clear c6
                try clear c6b0
                try clear p6
                try clear c7
                try clear c7b0
                try clear c9
                try clear c9b0
                try clear c10
                try clear c10b0
                try clear c10b1
                try clear c10b2
                try clear c12
                try clear c12b0
                try clear c12b1
                try clear c12b2
                try clear c14
                try clear c16
                try clear c16b0
                try clear c16b1
                try clear c18
                try clear c18b0
                try clear c19
                try clear c19b0
                try clear c20
                try clear c20b0
                try clear c25
                try clear c25b0
                try clear c25b1
                try clear c26
                try clear c26b0
                try clear c26b1
                try clear c27
                try clear c27b0
                try clear c27b1
                try clear c28
                try clear p28
                try clear q28
                try clear hx28
                try clear p29
                try clear q29
                try clear hx29
                try clear c40
                try clear c40b0
                try clear c40b1
                try clear c42
                try clear c42b0
                try clear c42b1
                try clear c44
                try clear c52
                try clear c52b0
                try clear c52b1
                try clear c53
                try clear c58
                try clear c58b0
                try clear c58b1
                try clear hx287_0
                try clear hx290_0
                try clear p2
                try clear p287
                try clear p290
                try clear q2
                try clear q287
                try clear q290
                obtain ⟨kq, x111_54, rfl, HA, HJ54, HO_14, HB⟩ := hcut
                cases kq with
                | zero => exact absurd HA.out (by simp [calepinlaw04_ValueWrites.j4])
                | succ kj54 =>
                  have H := HA.out
                  clear HA
                  simp only [calepinlaw04_ValueWrites.j4] at H
                  by_cases c60 : x111_54 = true
                  · subst c60
                    have H1 : (some false) = some r := by rw [if_pos rfl] at H; exact H
                    clear H
                    have H := H1
                    clear H1
                    obtain rfl := Option.some.inj H
                    go_wp2
                    repeat (go_quiet (fail); try go_wp2)
                    go_ret
                    exact ⟨by first | rfl | (simp [errW_none, errW_some] <;> rfl) | (simp [*, errW_none, errW_some] <;> rfl), by repeat (first | (with_reducible first | exact HB.out | apply below_alloc | apply pw_below_drewN | apply below_drew1) | exact HB.out)⟩
                  · replace c60 := Bool.eq_false_iff.mpr c60
                    subst c60
                    have H1 : (calepinlaw04_ValueWrites.l2 kj54 l0 t302 (t302.length : Int) 0) = some r := by rw [if_neg (show ¬ (false = true) by decide)] at H; exact H
                    clear H
                    have H := H1
                    clear H1
                    have H' := Aside0.mk H
                    clear H
                    obtain ⟨Ao61, co61, eo61⟩ := Kd.S_slice HO_14.out
                    subst eo61
                    go_wp2
                    repeat (go_quiet (fail); try go_wp2)
                    go_loopg [114] kj54 (fun kq v114 w' => ∃ (x114_3 : Int), v114 = .int .i64 x114_3 ∧ Aside0 (calepinlaw04_ValueWrites.l2 kq l0 t302 (t302.length : Int) x114_3 = some r) ∧ Aside0 (kq ≤ kj54) ∧ Aside0 (Kd.S (Kd.slice 9 Kd.string) 29 w' w.heap.size (fun _ => True) (.slice Ao61 t302.length co61) t302) ∧ Aside0 (Below w.heap.size w w'))
                    case atStart => exact ⟨(0), (by first | rfl | (simp; done) | (simp [*]; done)), H', ⟨Nat.le_refl _⟩, ⟨by (with_reducible repeat (first | apply Kd.S_alloc | apply Kd.S_drewN | apply Kd.S_drew)); exact HO_14.out⟩, ⟨by repeat (first | (with_reducible first | exact HB.out | apply below_alloc | apply pw_below_drewN | apply below_drew1) | exact HB.out)⟩⟩
                    case round =>
                      clear H'
                      try clear c1
                      try clear c2
                      try clear p2
                      try clear q2
                      try clear hx2
                      try clear c3
                      try clear c4
                      try clear c5
                      try clear c5b0
                      try clear c6
                      try clear c6b0
                      try clear p6
                      try clear c7
                      try clear c7b0
                      try clear c9
                      try clear c9b0
                      try clear c10
                      try clear c10b0
                      try clear c10b1
                      try clear c10b2
                      try clear c12
                      try clear c12b0
                      try clear c12b1
                      try clear c12b2
                      try clear c14
                      try clear c16
                      try clear c16b0
                      try clear c16b1
                      try clear c18
                      try clear c18b0
                      try clear c19
                      try clear c19b0
                      try clear c20
                      try clear c20b0
                      try clear c25
                      try clear c25b0
                      try clear c25b1
                      try clear c26
                      try clear c26b0
                      try clear c26b1
                      try clear c27
                      try clear c27b0
                      try clear c27b1
                      try clear c28
                      try clear p28
                      try clear q28
                      try clear hx28
                      try clear p29
                      try clear q29
                      try clear hx29
                      try clear c40
                      try clear c40b0
                      try clear c40b1
                      try clear c42
                      try clear c42b0
                      try clear c42b1
                      try clear c44
                      try clear c52
                      try clear c52b0
                      try clear c52b1
                      try clear c53
                      try clear c58
                      try clear c58b0
                      try clear c58b1
                      try clear c60
                      try clear hx287_0
                      try clear hx290_0
                      try clear p2
                      try clear p28
                      try clear p287
                      try clear p29
                      try clear p290
                      try clear p6
                      try clear q2
                      try clear q28
                      try clear q287
                      try clear q29
                      try clear q290
                      obtain ⟨x114_3, rfl, HA, HK3, HO_14, HB⟩ := hrel
                      cases gk with
                      | zero => exact absurd HA.out (by simp [calepinlaw04_ValueWrites.l2])
                      | succ k3 =>
                        have H := HA.out
                        clear HA
                        simp only [calepinlaw04_ValueWrites.l2] at H
                        by_cases c62 : x114_3 < (t302.length : Int)
                        · rw [if_pos c62] at H
                          have c62b0 : decide (x114_3 < (t302.length : Int)) = true := decide_eq_true c62
                          clear c62
                          by_cases c63 : 0 ≤ x114_3
                          · rw [if_pos c63] at H
                            have c63b0 : decide (0 ≤ x114_3) = true := decide_eq_true c63
                            clear c63
                            by_cases c64 : x114_3 < (t302.length : Int)
                            · rw [if_pos c64] at H
                              have c64b0 : decide (x114_3 < (t302.length : Int)) = true := decide_eq_true c64
                              clear c64
                              by_cases c65 : x114_3 < (l0.length : Int)
                              · rw [if_pos c65] at H
                                have c65b0 : decide (x114_3 < (l0.length : Int)) = true := decide_eq_true c65
                                clear c65
                                replace H := Option.bind_eq_some_iff.mp H
                                obtain ⟨t308, A660, H⟩ := H
                                replace H : (if t308 = true then (calepinlaw04_ValueWrites.l2 k3 l0 t302 (t302.length : Int) (wrap64 (x114_3 + 1))) else (some false)) = some r := H
                                have A66 := Aside0.mk A660
                                clear A660
                                by_cases c67 : t308 = true
                                · subst c67
                                  have H1 : (calepinlaw04_ValueWrites.l2 k3 l0 t302 (t302.length : Int) (wrap64 (x114_3 + 1))) = some r := by rw [if_pos rfl] at H; exact H
                                  clear H
                                  have H := H1
                                  clear H1
                                  have H' := Aside0.mk H
                                  clear H
                                  have p306 : 0 ≤ (x114_3 : Int) := of_decide_eq_true (by first | (with_reducible assumption) | assumption)
                                  have q306 : x114_3 < (t302.length : Int) := of_decide_eq_true (by first | (with_reducible assumption) | assumption)
                                  obtain ⟨ad306, A306_0, c306_0, e306, hx306_0, hl306_0, hi306_0⟩ := at_L5 (Kd.S_reads' HO_14.out).2.2 x114_3 p306 q306
                                  cases e306
                                  obtain ⟨ce306, hce306, hMe306, hcc306⟩ := Kd.S_get HO_14.out [] x114_3 p306 (by first | exact q306 | exact of_decide_eq_true (by first | (with_reducible assumption) | assumption) | (have e_ := (Kd.S_reads' HO_14.out).1; omega))
                                  obtain ⟨ve306_0, rfl, ge306_0⟩ := hMe306
                                  have hv306_0 := hcc306 0 _ rfl
                                  rw [Nat.add_zero, show ((Kd.slice 9 Kd.string)).sz = 1 from rfl, Nat.mul_one] at hv306_0
                                  replace hv306_0 := Option.some.inj (hv306_0.symm.trans hx306_0)
                                  rw [hv306_0] at ge306_0
                                  have HL306_0 := Aside0.mk (show Kd.R Kd.string 9 _ _ _ _ (rd_L5 t302 x114_3) from ge306_0)
                                  clear hv306_0 ge306_0
                                  clear hcc306 hce306
                                  have HR306_0 := Aside0.mk hi306_0
                                  have HC306_0 := Aside0.mk hl306_0
                                  clear hi306_0 hl306_0
                                  replace p306 := eq_true p306
                                  replace q306 := eq_true q306
                                  have p307 : 0 ≤ (x114_3 : Int) := of_decide_eq_true (by first | (with_reducible assumption) | assumption)
                                  have q307 : x114_3 < (l0.length : Int) := of_decide_eq_true (by first | (with_reducible assumption) | assumption)
                                  obtain ⟨ad307, A307_0, c307_0, e307, hx307_0, hl307_0, hi307_0⟩ := at_L5 HR0.out x114_3 p307 q307
                                  cases e307
                                  replace hx307_0 := (HB.out.cell (World.block_lt_of_cell? w _ hx307_0)).trans hx307_0
                                  have HR307_0 := Aside0.mk hi307_0
                                  have HC307_0 := Aside0.mk hl307_0
                                  clear hi307_0 hl307_0
                                  replace p307 := eq_true p307
                                  replace q307 := eq_true q307
                                  go_wp2_with (first | (go_at_call 16; (with_reducible refine (calepinref04_Same.calls k3 _ _ (rd_L5 t302 x114_3) _ _ (rd_L5 l0 x114_3) true _ ?side1 ?side2 ?side3 ?side4 A66.out).mono ?_); (case side1 => repeat (first | exact (by repeat (first | (with_reducible exact HR306_0.out) | (with_reducible refine Kd.C_alloc ?_ _) | (with_reducible refine Kd.C_drewN ?_ _) | (with_reducible refine Kd.C_drew ?_) | exact HR306_0.out)) | (with_reducible refine Kd.C_alloc ?_ _) | (with_reducible refine Kd.C_drewN ?_ _) | (with_reducible refine Kd.C_drew ?_))); (case side2 => exact HC306_0.out); (case side3 => repeat (first | exact (Kd.C_below HR307_0.out HB.out) | (with_reducible refine Kd.C_alloc ?_ _) | (with_reducible refine Kd.C_drewN ?_ _) | (with_reducible refine Kd.C_drew ?_))); (case side4 => exact HC307_0.out); rintro e w' ⟨rfl, ⟨nd, rfl⟩⟩; (try first | exact ⟨rfl, _, World.drewN_drewN _ _ _⟩ | exact ⟨rfl, _, Eq.trans (World.drewN_drewN _ _ _) (congrArg (World.drewN _) (Nat.add_assoc _ _ _))⟩)))
                                  repeat (go_quiet (first | (go_at_call 16; (with_reducible refine (calepinref04_Same.calls k3 _ _ (rd_L5 t302 x114_3) _ _ (rd_L5 l0 x114_3) true _ ?side1 ?side2 ?side3 ?side4 A66.out).mono ?_); (case side1 => repeat (first | exact (by repeat (first | (with_reducible exact HR306_0.out) | (with_reducible refine Kd.C_alloc ?_ _) | (with_reducible refine Kd.C_drewN ?_ _) | (with_reducible refine Kd.C_drew ?_) | exact HR306_0.out)) | (with_reducible refine Kd.C_alloc ?_ _) | (with_reducible refine Kd.C_drewN ?_ _) | (with_reducible refine Kd.C_drew ?_))); (case side2 => exact HC306_0.out); (case side3 => repeat (first | exact (Kd.C_below HR307_0.out HB.out) | (with_reducible refine Kd.C_alloc ?_ _) | (with_reducible refine Kd.C_drewN ?_ _) | (with_reducible refine Kd.C_drew ?_))); (case side4 => exact HC307_0.out); rintro e w' ⟨rfl, ⟨nd, rfl⟩⟩; (try first | exact ⟨rfl, _, World.drewN_drewN _ _ _⟩ | exact ⟨rfl, _, Eq.trans (World.drewN_drewN _ _ _) (congrArg (World.drewN _) (Nat.add_assoc _ _ _))⟩))); try go_wp2_with (first | (go_at_call 16; (with_reducible refine (calepinref04_Same.calls k3 _ _ (rd_L5 t302 x114_3) _ _ (rd_L5 l0 x114_3) true _ ?side1 ?side2 ?side3 ?side4 A66.out).mono ?_); (case side1 => repeat (first | exact (by repeat (first | (with_reducible exact HR306_0.out) | (with_reducible refine Kd.C_alloc ?_ _) | (with_reducible refine Kd.C_drewN ?_ _) | (with_reducible refine Kd.C_drew ?_) | exact HR306_0.out)) | (with_reducible refine Kd.C_alloc ?_ _) | (with_reducible refine Kd.C_drewN ?_ _) | (with_reducible refine Kd.C_drew ?_))); (case side2 => exact HC306_0.out); (case side3 => repeat (first | exact (Kd.C_below HR307_0.out HB.out) | (with_reducible refine Kd.C_alloc ?_ _) | (with_reducible refine Kd.C_drewN ?_ _) | (with_reducible refine Kd.C_drew ?_))); (case side4 => exact HC307_0.out); rintro e w' ⟨rfl, ⟨nd, rfl⟩⟩; (try first | exact ⟨rfl, _, World.drewN_drewN _ _ _⟩ | exact ⟨rfl, _, Eq.trans (World.drewN_drewN _ _ _) (congrArg (World.drewN _) (Nat.add_assoc _ _ _))⟩))))
                                  go_roundg k3
                                  case measure => have := HK1.out; have := HJ54.out; have := HK3.out; omega
                                  case rel => exact ⟨(wrap64 (x114_3 + 1)), (by first | rfl | (simp; done) | (simp [*]; done)), H', ⟨by have := HK1.out; have := HJ54.out; have := HK3.out; omega⟩, ⟨by (with_reducible repeat (first | apply Kd.S_alloc | apply Kd.S_drewN | apply Kd.S_drew)); exact HO_14.out⟩, ⟨by repeat (first | (with_reducible first | exact HB.out | apply below_alloc | apply pw_below_drewN | apply below_drew1) | exact HB.out)⟩⟩
                                · replace c67 := Bool.eq_false_iff.mpr c67
                                  subst c67
                                  have H1 : (some false) = some r := by rw [if_neg (show ¬ (false = true) by decide)] at H; exact H
                                  clear H
                                  have H := H1
                                  clear H1
                                  obtain rfl := Option.some.inj H
                                  have p306 : 0 ≤ (x114_3 : Int) := of_decide_eq_true (by first | (with_reducible assumption) | assumption)
                                  have q306 : x114_3 < (t302.length : Int) := of_decide_eq_true (by first | (with_reducible assumption) | assumption)
                                  obtain ⟨ad306, A306_0, c306_0, e306, hx306_0, hl306_0, hi306_0⟩ := at_L5 (Kd.S_reads' HO_14.out).2.2 x114_3 p306 q306
                                  cases e306
                                  obtain ⟨ce306, hce306, hMe306, hcc306⟩ := Kd.S_get HO_14.out [] x114_3 p306 (by first | exact q306 | exact of_decide_eq_true (by first | (with_reducible assumption) | assumption) | (have e_ := (Kd.S_reads' HO_14.out).1; omega))
                                  obtain ⟨ve306_0, rfl, ge306_0⟩ := hMe306
                                  have hv306_0 := hcc306 0 _ rfl
                                  rw [Nat.add_zero, show ((Kd.slice 9 Kd.string)).sz = 1 from rfl, Nat.mul_one] at hv306_0
                                  replace hv306_0 := Option.some.inj (hv306_0.symm.trans hx306_0)
                                  rw [hv306_0] at ge306_0
                                  have HL306_0 := Aside0.mk (show Kd.R Kd.string 9 _ _ _ _ (rd_L5 t302 x114_3) from ge306_0)
                                  clear hv306_0 ge306_0
                                  clear hcc306 hce306
                                  have HR306_0 := Aside0.mk hi306_0
                                  have HC306_0 := Aside0.mk hl306_0
                                  clear hi306_0 hl306_0
                                  replace p306 := eq_true p306
                                  replace q306 := eq_true q306
                                  have p307 : 0 ≤ (x114_3 : Int) := of_decide_eq_true (by first | (with_reducible assumption) | assumption)
                                  have q307 : x114_3 < (l0.length : Int) := of_decide_eq_true (by first | (with_reducible assumption) | assumption)
                                  obtain ⟨ad307, A307_0, c307_0, e307, hx307_0, hl307_0, hi307_0⟩ := at_L5 HR0.out x114_3 p307 q307
                                  cases e307
                                  replace hx307_0 := (HB.out.cell (World.block_lt_of_cell? w _ hx307_0)).trans hx307_0
                                  have HR307_0 := Aside0.mk hi307_0
                                  have HC307_0 := Aside0.mk hl307_0
                                  clear hi307_0 hl307_0
                                  replace p307 := eq_true p307
                                  replace q307 := eq_true q307
                                  go_wp2_with (first | (go_at_call 16; (with_reducible refine (calepinref04_Same.calls k3 _ _ (rd_L5 t302 x114_3) _ _ (rd_L5 l0 x114_3) false _ ?side1 ?side2 ?side3 ?side4 A66.out).mono ?_); (case side1 => repeat (first | exact (by repeat (first | (with_reducible exact HR306_0.out) | (with_reducible refine Kd.C_alloc ?_ _) | (with_reducible refine Kd.C_drewN ?_ _) | (with_reducible refine Kd.C_drew ?_) | exact HR306_0.out)) | (with_reducible refine Kd.C_alloc ?_ _) | (with_reducible refine Kd.C_drewN ?_ _) | (with_reducible refine Kd.C_drew ?_))); (case side2 => exact HC306_0.out); (case side3 => repeat (first | exact (Kd.C_below HR307_0.out HB.out) | (with_reducible refine Kd.C_alloc ?_ _) | (with_reducible refine Kd.C_drewN ?_ _) | (with_reducible refine Kd.C_drew ?_))); (case side4 => exact HC307_0.out); rintro e w' ⟨rfl, ⟨nd, rfl⟩⟩; (try first | exact ⟨rfl, _, World.drewN_drewN _ _ _⟩ | exact ⟨rfl, _, Eq.trans (World.drewN_drewN _ _ _) (congrArg (World.drewN _) (Nat.add_assoc _ _ _))⟩)))
                                  repeat (go_quiet (first | (go_at_call 16; (with_reducible refine (calepinref04_Same.calls k3 _ _ (rd_L5 t302 x114_3) _ _ (rd_L5 l0 x114_3) false _ ?side1 ?side2 ?side3 ?side4 A66.out).mono ?_); (case side1 => repeat (first | exact (by repeat (first | (with_reducible exact HR306_0.out) | (with_reducible refine Kd.C_alloc ?_ _) | (with_reducible refine Kd.C_drewN ?_ _) | (with_reducible refine Kd.C_drew ?_) | exact HR306_0.out)) | (with_reducible refine Kd.C_alloc ?_ _) | (with_reducible refine Kd.C_drewN ?_ _) | (with_reducible refine Kd.C_drew ?_))); (case side2 => exact HC306_0.out); (case side3 => repeat (first | exact (Kd.C_below HR307_0.out HB.out) | (with_reducible refine Kd.C_alloc ?_ _) | (with_reducible refine Kd.C_drewN ?_ _) | (with_reducible refine Kd.C_drew ?_))); (case side4 => exact HC307_0.out); rintro e w' ⟨rfl, ⟨nd, rfl⟩⟩; (try first | exact ⟨rfl, _, World.drewN_drewN _ _ _⟩ | exact ⟨rfl, _, Eq.trans (World.drewN_drewN _ _ _) (congrArg (World.drewN _) (Nat.add_assoc _ _ _))⟩))); try go_wp2_with (first | (go_at_call 16; (with_reducible refine (calepinref04_Same.calls k3 _ _ (rd_L5 t302 x114_3) _ _ (rd_L5 l0 x114_3) false _ ?side1 ?side2 ?side3 ?side4 A66.out).mono ?_); (case side1 => repeat (first | exact (by repeat (first | (with_reducible exact HR306_0.out) | (with_reducible refine Kd.C_alloc ?_ _) | (with_reducible refine Kd.C_drewN ?_ _) | (with_reducible refine Kd.C_drew ?_) | exact HR306_0.out)) | (with_reducible refine Kd.C_alloc ?_ _) | (with_reducible refine Kd.C_drewN ?_ _) | (with_reducible refine Kd.C_drew ?_))); (case side2 => exact HC306_0.out); (case side3 => repeat (first | exact (Kd.C_below HR307_0.out HB.out) | (with_reducible refine Kd.C_alloc ?_ _) | (with_reducible refine Kd.C_drewN ?_ _) | (with_reducible refine Kd.C_drew ?_))); (case side4 => exact HC307_0.out); rintro e w' ⟨rfl, ⟨nd, rfl⟩⟩; (try first | exact ⟨rfl, _, World.drewN_drewN _ _ _⟩ | exact ⟨rfl, _, Eq.trans (World.drewN_drewN _ _ _) (congrArg (World.drewN _) (Nat.add_assoc _ _ _))⟩))))
                                  go_ret
                                  exact ⟨by first | rfl | (simp [errW_none, errW_some] <;> rfl) | (simp [*, errW_none, errW_some] <;> rfl), by repeat (first | (with_reducible first | exact HB.out | apply below_alloc | apply pw_below_drewN | apply below_drew1) | exact HB.out)⟩
                              · rw [if_neg c65] at H
                                exact absurd H (by simp)
                            · rw [if_neg c64] at H
                              exact absurd H (by simp)
                          · rw [if_neg c63] at H
                            exact absurd H (by simp)
                        · rw [if_neg c62] at H
                          have c62b0 : decide (x114_3 < (t302.length : Int)) = false := decide_eq_false c62
                          clear c62
                          obtain rfl := Option.some.inj H
                          go_wp2
                          repeat (go_quiet (fail); try go_wp2)
                          go_ret
                          exact ⟨by first | rfl | (simp [errW_none, errW_some] <;> rfl) | (simp [*, errW_none, errW_some] <;> rfl), by repeat (first | (with_reducible first | exact HB.out | apply below_alloc | apply pw_below_drewN | apply below_drew1) | exact HB.out)⟩
            · replace c53 := Bool.eq_false_iff.mpr c53
              subst c53
              have H1 : (some true) = some r := by rw [if_neg (show ¬ (false = true) by decide)] at H; exact H
              clear H
              have H := H1
              clear H1
              obtain rfl := Option.some.inj H
              go_wp2_with (first | (go_at_call 21; (with_reducible refine (value_PutFields.calls k1 _ _ l0 t301 _ ?side1 ?side2 A51.out).mono ?_); (case side1 => repeat (first | exact (Kd.C_below HR0.out HB.out) | (with_reducible refine Kd.C_alloc ?_ _) | (with_reducible refine Kd.C_drewN ?_ _) | (with_reducible refine Kd.C_drew ?_))); (case side2 => exact HC0.out); rintro e w68 ⟨rfl, hb⟩; have n0_ := Aside0.mk (below_step (by repeat (first | (with_reducible first | exact HB.out | apply below_alloc | apply pw_below_drewN | apply below_drew1) | exact HB.out)) hb); clear HB; have HB := n0_; clear n0_; (try clear hb); (try clear hb2); (try clear hk); (try clear hi)))
              repeat (go_quiet (first | (go_at_call 21; (with_reducible refine (value_PutFields.calls k1 _ _ l0 t301 _ ?side1 ?side2 A51.out).mono ?_); (case side1 => repeat (first | exact (Kd.C_below HR0.out HB.out) | (with_reducible refine Kd.C_alloc ?_ _) | (with_reducible refine Kd.C_drewN ?_ _) | (with_reducible refine Kd.C_drew ?_))); (case side2 => exact HC0.out); rintro e w68 ⟨rfl, hb⟩; have n0_ := Aside0.mk (below_step (by repeat (first | (with_reducible first | exact HB.out | apply below_alloc | apply pw_below_drewN | apply below_drew1) | exact HB.out)) hb); clear HB; have HB := n0_; clear n0_; (try clear hb); (try clear hb2); (try clear hk); (try clear hi))); try go_wp2_with (first | (go_at_call 21; (with_reducible refine (value_PutFields.calls k1 _ _ l0 t301 _ ?side1 ?side2 A51.out).mono ?_); (case side1 => repeat (first | exact (Kd.C_below HR0.out HB.out) | (with_reducible refine Kd.C_alloc ?_ _) | (with_reducible refine Kd.C_drewN ?_ _) | (with_reducible refine Kd.C_drew ?_))); (case side2 => exact HC0.out); rintro e w68 ⟨rfl, hb⟩; have n0_ := Aside0.mk (below_step (by repeat (first | (with_reducible first | exact HB.out | apply below_alloc | apply pw_below_drewN | apply below_drew1) | exact HB.out)) hb); clear HB; have HB := n0_; clear n0_; (try clear hb); (try clear hb2); (try clear hk); (try clear hi))))
              go_ret
              exact ⟨by first | rfl | (simp [errW_none, errW_some] <;> rfl) | (simp [*, errW_none, errW_some] <;> rfl), by repeat (first | (with_reducible first | exact HB.out | apply below_alloc | apply pw_below_drewN | apply below_drew1) | exact HB.out)⟩
          · rw [if_neg c52] at H
            have c52b0 : (t301.toList == x3_1.toList) = false := beq_eq_false_iff_ne.mpr c52
            have c52b1 : (t301.toList != x3_1.toList) = true := bne_iff_ne.mpr c52
            obtain rfl := Option.some.inj H
            go_wp2_with (first | (go_at_call 21; (with_reducible refine (value_PutFields.calls k1 _ _ l0 t301 _ ?side1 ?side2 A51.out).mono ?_); (case side1 => repeat (first | exact (Kd.C_below HR0.out HB.out) | (with_reducible refine Kd.C_alloc ?_ _) | (with_reducible refine Kd.C_drewN ?_ _) | (with_reducible refine Kd.C_drew ?_))); (case side2 => exact HC0.out); rintro e w69 ⟨rfl, hb⟩; have n0_ := Aside0.mk (below_step (by repeat (first | (with_reducible first | exact HB.out | apply below_alloc | apply pw_below_drewN | apply below_drew1) | exact HB.out)) hb); clear HB; have HB := n0_; clear n0_; (try clear hb); (try clear hb2); (try clear hk); (try clear hi)))
            repeat (go_quiet (first | (go_at_call 21; (with_reducible refine (value_PutFields.calls k1 _ _ l0 t301 _ ?side1 ?side2 A51.out).mono ?_); (case side1 => repeat (first | exact (Kd.C_below HR0.out HB.out) | (with_reducible refine Kd.C_alloc ?_ _) | (with_reducible refine Kd.C_drewN ?_ _) | (with_reducible refine Kd.C_drew ?_))); (case side2 => exact HC0.out); rintro e w69 ⟨rfl, hb⟩; have n0_ := Aside0.mk (below_step (by repeat (first | (with_reducible first | exact HB.out | apply below_alloc | apply pw_below_drewN | apply below_drew1) | exact HB.out)) hb); clear HB; have HB := n0_; clear n0_; (try clear hb); (try clear hb2); (try clear hk); (try clear hi))); try go_wp2_with (first | (go_at_call 21; (with_reducible refine (value_PutFields.calls k1 _ _ l0 t301 _ ?side1 ?side2 A51.out).mono ?_); (case side1 => repeat (first | exact (Kd.C_below HR0.out HB.out) | (with_reducible refine Kd.C_alloc ?_ _) | (with_reducible refine Kd.C_drewN ?_ _) | (with_reducible refine Kd.C_drew ?_))); (case side2 => exact HC0.out); rintro e w69 ⟨rfl, hb⟩; have n0_ := Aside0.mk (below_step (by repeat (first | (with_reducible first | exact HB.out | apply below_alloc | apply pw_below_drewN | apply below_drew1) | exact HB.out)) hb); clear HB; have HB := n0_; clear n0_; (try clear hb); (try clear hb2); (try clear hk); (try clear hi))))
            go_ret
            exact ⟨by first | rfl | (simp [errW_none, errW_some] <;> rfl) | (simp [*, errW_none, errW_some] <;> rfl), by repeat (first | (with_reducible first | exact HB.out | apply below_alloc | apply pw_below_drewN | apply below_drew1) | exact HB.out)⟩
  · replace c3 := Bool.eq_false_iff.mpr c3
    subst c3
    have H1 : (some false) = some r := by rw [if_neg (show ¬ (false = true) by decide)] at H; exact H
    clear H
    have H := H1
    clear H1
    obtain rfl := Option.some.inj H
    go_enter Try.func7, Try.ntmps7
    go_wp2_with (first | (go_at_call 8; (with_reducible refine (calepinlaw04_first.calls  false _ A2.out).mono ?_); rintro e w70 ⟨rfl, hb⟩; have n0_ := Aside0.mk (below_step (by repeat (first | (with_reducible first | exact HB.out | apply below_alloc | apply pw_below_drewN | apply below_drew1) | exact HB.out)) hb); clear HB; have HB := n0_; clear n0_; (try clear hb); (try clear hb2); (try clear hk); (try clear hi)))
    repeat (go_quiet (first | (go_at_call 8; (with_reducible refine (calepinlaw04_first.calls  false _ A2.out).mono ?_); rintro e w70 ⟨rfl, hb⟩; have n0_ := Aside0.mk (below_step (by repeat (first | (with_reducible first | exact HB.out | apply below_alloc | apply pw_below_drewN | apply below_drew1) | exact HB.out)) hb); clear HB; have HB := n0_; clear n0_; (try clear hb); (try clear hb2); (try clear hk); (try clear hi))); try go_wp2_with (first | (go_at_call 8; (with_reducible refine (calepinlaw04_first.calls  false _ A2.out).mono ?_); rintro e w70 ⟨rfl, hb⟩; have n0_ := Aside0.mk (below_step (by repeat (first | (with_reducible first | exact HB.out | apply below_alloc | apply pw_below_drewN | apply below_drew1) | exact HB.out)) hb); clear HB; have HB := n0_; clear n0_; (try clear hb); (try clear hb2); (try clear hk); (try clear hi))))
    go_ret
    exact ⟨by first | rfl | (simp [errW_none, errW_some] <;> rfl) | (simp [*, errW_none, errW_some] <;> rfl), by repeat (first | (with_reducible first | exact HB.out | apply below_alloc | apply pw_below_drewN | apply below_drew1) | exact HB.out)⟩

end Go.Proofs.Ytdjdbmopckhcdaa.PV
