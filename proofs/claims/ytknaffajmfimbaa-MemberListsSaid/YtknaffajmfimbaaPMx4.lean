-- Written for this claim by a program of this session (wip/tools/myprint.py) out of the translation. Not trusted: Lean checks it.
import Derived.Test.YtknaffajmfimbaaPMx0
import Derived.Test.YtknaffajmfimbaaPMx1
import Derived.Test.YtknaffajmfimbaaPMx2
import Derived.Test.YtknaffajmfimbaaPMx3
namespace Go.Proofs.Ytknaffajmfimbaa.PM
open Go.RowKit Go.Proofs.YtknaffajmfimbaaW.PrintWords Go.Proofs.YtknaffajmfimbaaW.PrintLast Go.Proofs.YtknaffajmfimbaaW.PrintMore
attribute [local go_sem] max2_int min2_int max_two min_two max_three min_three max_four min_four   -- for this text's walks alone
set_option linter.unusedVariables false
set_option linter.unusedSimpArgs false

/-! ### calepinlaw21_MemberLists: function 3 -/
mutual
def calepinlaw21_MemberLists.j0 : Nat → List Int → List Int → List Int → Bool → List Int → Bool → List Int → Bool → List Int → Bool → Bool → Option (Bool)
  | 0, _, _, _, _, _, _, _, _, _, _, _ => none
  | k + 1, x0, x7, x8, x9, x10, x11, x12, x13, x14, x15, x81 => if x81 = true then (some false) else ((calepinref21_Right.f k x0).bind fun t199 => (if t199 = true then (if (x9 != x13) = true then (calepinlaw21_MemberLists.j1 k x0 x7 x8 x10 true) else (if x13 = true then ((calepinlaw21_same.f k x8 x12).bind fun t200 => (if t200 = true then (if (x11 != x15) = true then (calepinlaw21_MemberLists.j1 k x0 x7 x8 x10 true) else (if x15 = true then ((calepinlaw21_same.f k x10 x14).bind fun t201 => (if t201 = true then (calepinlaw21_MemberLists.j1 k x0 x7 x8 x10 false) else (calepinlaw21_MemberLists.j1 k x0 x7 x8 x10 true))) else (calepinlaw21_MemberLists.j1 k x0 x7 x8 x10 (decide ((x10.length : Int) > 0))))) else (calepinlaw21_MemberLists.j1 k x0 x7 x8 x10 true))) else (if (x8.length : Int) > 0 then (calepinlaw21_MemberLists.j1 k x0 x7 x8 x10 true) else (if (x11 != x15) = true then (calepinlaw21_MemberLists.j1 k x0 x7 x8 x10 true) else (if x15 = true then ((calepinlaw21_same.f k x10 x14).bind fun t202 => (if t202 = true then (calepinlaw21_MemberLists.j1 k x0 x7 x8 x10 false) else (calepinlaw21_MemberLists.j1 k x0 x7 x8 x10 true))) else (calepinlaw21_MemberLists.j1 k x0 x7 x8 x10 (decide ((x10.length : Int) > 0)))))))) else (if (x11 != x15) = true then (calepinlaw21_MemberLists.j1 k x0 x7 x8 x10 true) else (if x15 = true then ((calepinlaw21_same.f k x10 x14).bind fun t203 => (if t203 = true then (calepinlaw21_MemberLists.j1 k x0 x7 x8 x10 false) else (calepinlaw21_MemberLists.j1 k x0 x7 x8 x10 true))) else (calepinlaw21_MemberLists.j1 k x0 x7 x8 x10 (decide ((x10.length : Int) > 0)))))))
def calepinlaw21_MemberLists.j1 : Nat → List Int → List Int → List Int → List Int → Bool → Option (Bool)
  | 0, _, _, _, _, _ => none
  | k + 1, x0, x7, x8, x10, x129 => if x129 = true then (some false) else (calepinlaw21_MemberLists.l0 k x0 x7 x8 x10 (x8.length : Int) 0)
def calepinlaw21_MemberLists.l0 : Nat → List Int → List Int → List Int → List Int → Int → Int → Option (Bool)
  | 0, _, _, _, _, _, _ => none
  | k + 1, x0, x7, x8, x10, x131, x132 => if x132 < x131 then (if 0 ≤ x132 then (if x132 < (x8.length : Int) then (calepinlaw21_MemberLists.l0 k x0 x7 (x8.set (x132 : Int).toNat 99) x10 x131 (wrap64 (x132 + 1))) else (none)) else (none)) else (calepinlaw21_MemberLists.l1 k x0 x7 x10 (x10.length : Int) 0)
def calepinlaw21_MemberLists.l1 : Nat → List Int → List Int → List Int → Int → Int → Option (Bool)
  | 0, _, _, _, _, _ => none
  | k + 1, x0, x7, x10, x140, x141 => if x141 < x140 then (if 0 ≤ x141 then (if x141 < (x10.length : Int) then (calepinlaw21_MemberLists.l1 k x0 x7 (x10.set (x141 : Int).toNat 99) x140 (wrap64 (x141 + 1))) else (none)) else (none)) else ((calepinlaw21_same.f k x7 x0).bind fun t206 => (if t206 = true then ((member_Most.f x7).bind fun t207 => (some (t207 == (wrap64 ((wrap64 ((x0.length : Int) / 2)) + 1))))) else (some false)))
end
def calepinlaw21_MemberLists.f (k : Nat) (l0 : List Int) (l1 : List Int) (a2 : Int) : Option (Bool) := (calepinlaw21_first.f k).bind fun t169 => (if t169 = true then (if (wrap64 ((l0.length : Int) + (l1.length : Int))) > 100 then (some true) else ((some (([] : List Int) : List Int)).bind fun y170 => (if y170.length + l0.length < 17592186044416 then ((some (y170 ++ l0 : List Int)).bind fun y173 => ((member_With.f y173 a2).bind fun bt176 => ((member_Without.f y173 a2).bind fun bt180 => ((calepinref21_With.f k l0 a2).bind fun bt184 => ((calepinref21_Without.f k l0 a2).bind fun bt188 => ((calepinlaw21_same.f k y173 l0).bind fun t192 => (if t192 = true then ((member_Right.f k y173).bind fun t193 => ((calepinref21_Right.f k l0).bind fun t194 => (if (t193 != t194) = true then (calepinlaw21_MemberLists.j0 k l0 y173 bt176.1 bt176.2 bt180.1 bt180.2 bt184.1 bt184.2 bt188.1 bt188.2 true) else ((member_Has.f k y173 a2).bind fun t195 => ((calepinref21_Has.f k l0 a2).bind fun t196 => (if (t195 != t196) = true then (calepinlaw21_MemberLists.j0 k l0 y173 bt176.1 bt176.2 bt180.1 bt180.2 bt184.1 bt184.2 bt188.1 bt188.2 true) else ((member_Step.f k y173 l1).bind fun t197 => ((calepinref21_Step.f k l0 l1).bind fun t198 => (calepinlaw21_MemberLists.j0 k l0 y173 bt176.1 bt176.2 bt180.1 bt180.2 bt184.1 bt184.2 bt188.1 bt188.2 (t197 != t198)))))))))) else (calepinlaw21_MemberLists.j0 k l0 y173 bt176.1 bt176.2 bt180.1 bt180.2 bt184.1 bt184.2 bt188.1 bt188.2 true)))))))) else (none)))) else (some false))
theorem calepinlaw21_MemberLists.mono_l : ∀ k, (∀ y0 y1 y2 y3 y4 y5 y6 y7 y8 y9 y10, LeO (calepinlaw21_MemberLists.j0 k y0 y1 y2 y3 y4 y5 y6 y7 y8 y9 y10) (calepinlaw21_MemberLists.j0 (k + 1) y0 y1 y2 y3 y4 y5 y6 y7 y8 y9 y10)) ∧ (∀ y0 y1 y2 y3 y4, LeO (calepinlaw21_MemberLists.j1 k y0 y1 y2 y3 y4) (calepinlaw21_MemberLists.j1 (k + 1) y0 y1 y2 y3 y4)) ∧ (∀ y0 y1 y2 y3 y4 y5, LeO (calepinlaw21_MemberLists.l0 k y0 y1 y2 y3 y4 y5) (calepinlaw21_MemberLists.l0 (k + 1) y0 y1 y2 y3 y4 y5)) ∧ (∀ y0 y1 y2 y3 y4, LeO (calepinlaw21_MemberLists.l1 k y0 y1 y2 y3 y4) (calepinlaw21_MemberLists.l1 (k + 1) y0 y1 y2 y3 y4))
  | 0 => ⟨fun _ _ _ _ _ _ _ _ _ _ _ r h => by simp [calepinlaw21_MemberLists.j0] at h, fun _ _ _ _ _ r h => by simp [calepinlaw21_MemberLists.j1] at h, fun _ _ _ _ _ _ r h => by simp [calepinlaw21_MemberLists.l0] at h, fun _ _ _ _ _ r h => by simp [calepinlaw21_MemberLists.l1] at h⟩
  | k + 1 => by
    obtain ⟨ih0, ih1, ih2, ih3⟩ := calepinlaw21_MemberLists.mono_l k
    refine ⟨?_, ?_, ?_, ?_⟩
    · intro y0 y1 y2 y3 y4 y5 y6 y7 y8 y9 y10
      unfold calepinlaw21_MemberLists.j0
      repeat' first
      | (with_reducible exact ih0 _ _ _ _ _ _ _ _ _ _ _)
      | (with_reducible exact ih1 _ _ _ _ _)
      | (with_reducible exact ih2 _ _ _ _ _ _)
      | (with_reducible exact ih3 _ _ _ _ _)
      | (with_reducible exact calepinlaw21_first.mono _)
      | (with_reducible exact calepinlaw21_same.mono _ _ _)
      | (with_reducible exact calepinref21_Has.mono _ _ _)
      | (with_reducible exact calepinref21_Right.mono _ _)
      | (with_reducible exact calepinref21_Step.mono _ _ _)
      | (with_reducible exact calepinref21_With.mono _ _ _)
      | (with_reducible exact calepinref21_Without.mono _ _ _)
      | (with_reducible exact member_Has.mono _ _ _)
      | (with_reducible exact member_Right.mono _ _)
      | (with_reducible exact member_Step.mono _ _ _)
      | (with_reducible exact LeO.refl _)
      | (with_reducible exact LeO.none _)
      | (with_reducible refine LeO.ite ?_ ?_)
      | (with_reducible refine LeO.bind ?_ (fun _ => ?_))
      | exact ih0 _ _ _ _ _ _ _ _ _ _ _
      | exact ih1 _ _ _ _ _
      | exact ih2 _ _ _ _ _ _
      | exact ih3 _ _ _ _ _
      | exact calepinlaw21_first.mono _
      | exact calepinlaw21_same.mono _ _ _
      | exact calepinref21_Has.mono _ _ _
      | exact calepinref21_Right.mono _ _
      | exact calepinref21_Step.mono _ _ _
      | exact calepinref21_With.mono _ _ _
      | exact calepinref21_Without.mono _ _ _
      | exact member_Has.mono _ _ _
      | exact member_Right.mono _ _
      | exact member_Step.mono _ _ _
      | exact LeO.none _
      | refine LeO.ite ?_ ?_
      | refine LeO.bind ?_ (fun _ => ?_)
    · intro y0 y1 y2 y3 y4
      unfold calepinlaw21_MemberLists.j1
      repeat' first
      | (with_reducible exact ih0 _ _ _ _ _ _ _ _ _ _ _)
      | (with_reducible exact ih1 _ _ _ _ _)
      | (with_reducible exact ih2 _ _ _ _ _ _)
      | (with_reducible exact ih3 _ _ _ _ _)
      | (with_reducible exact calepinlaw21_first.mono _)
      | (with_reducible exact calepinlaw21_same.mono _ _ _)
      | (with_reducible exact calepinref21_Has.mono _ _ _)
      | (with_reducible exact calepinref21_Right.mono _ _)
      | (with_reducible exact calepinref21_Step.mono _ _ _)
      | (with_reducible exact calepinref21_With.mono _ _ _)
      | (with_reducible exact calepinref21_Without.mono _ _ _)
      | (with_reducible exact member_Has.mono _ _ _)
      | (with_reducible exact member_Right.mono _ _)
      | (with_reducible exact member_Step.mono _ _ _)
      | (with_reducible exact LeO.refl _)
      | (with_reducible exact LeO.none _)
      | (with_reducible refine LeO.ite ?_ ?_)
      | (with_reducible refine LeO.bind ?_ (fun _ => ?_))
      | exact ih0 _ _ _ _ _ _ _ _ _ _ _
      | exact ih1 _ _ _ _ _
      | exact ih2 _ _ _ _ _ _
      | exact ih3 _ _ _ _ _
      | exact calepinlaw21_first.mono _
      | exact calepinlaw21_same.mono _ _ _
      | exact calepinref21_Has.mono _ _ _
      | exact calepinref21_Right.mono _ _
      | exact calepinref21_Step.mono _ _ _
      | exact calepinref21_With.mono _ _ _
      | exact calepinref21_Without.mono _ _ _
      | exact member_Has.mono _ _ _
      | exact member_Right.mono _ _
      | exact member_Step.mono _ _ _
      | exact LeO.none _
      | refine LeO.ite ?_ ?_
      | refine LeO.bind ?_ (fun _ => ?_)
    · intro y0 y1 y2 y3 y4 y5
      unfold calepinlaw21_MemberLists.l0
      repeat' first
      | (with_reducible exact ih0 _ _ _ _ _ _ _ _ _ _ _)
      | (with_reducible exact ih1 _ _ _ _ _)
      | (with_reducible exact ih2 _ _ _ _ _ _)
      | (with_reducible exact ih3 _ _ _ _ _)
      | (with_reducible exact calepinlaw21_first.mono _)
      | (with_reducible exact calepinlaw21_same.mono _ _ _)
      | (with_reducible exact calepinref21_Has.mono _ _ _)
      | (with_reducible exact calepinref21_Right.mono _ _)
      | (with_reducible exact calepinref21_Step.mono _ _ _)
      | (with_reducible exact calepinref21_With.mono _ _ _)
      | (with_reducible exact calepinref21_Without.mono _ _ _)
      | (with_reducible exact member_Has.mono _ _ _)
      | (with_reducible exact member_Right.mono _ _)
      | (with_reducible exact member_Step.mono _ _ _)
      | (with_reducible exact LeO.refl _)
      | (with_reducible exact LeO.none _)
      | (with_reducible refine LeO.ite ?_ ?_)
      | (with_reducible refine LeO.bind ?_ (fun _ => ?_))
      | exact ih0 _ _ _ _ _ _ _ _ _ _ _
      | exact ih1 _ _ _ _ _
      | exact ih2 _ _ _ _ _ _
      | exact ih3 _ _ _ _ _
      | exact calepinlaw21_first.mono _
      | exact calepinlaw21_same.mono _ _ _
      | exact calepinref21_Has.mono _ _ _
      | exact calepinref21_Right.mono _ _
      | exact calepinref21_Step.mono _ _ _
      | exact calepinref21_With.mono _ _ _
      | exact calepinref21_Without.mono _ _ _
      | exact member_Has.mono _ _ _
      | exact member_Right.mono _ _
      | exact member_Step.mono _ _ _
      | exact LeO.none _
      | refine LeO.ite ?_ ?_
      | refine LeO.bind ?_ (fun _ => ?_)
    · intro y0 y1 y2 y3 y4
      unfold calepinlaw21_MemberLists.l1
      repeat' first
      | (with_reducible exact ih0 _ _ _ _ _ _ _ _ _ _ _)
      | (with_reducible exact ih1 _ _ _ _ _)
      | (with_reducible exact ih2 _ _ _ _ _ _)
      | (with_reducible exact ih3 _ _ _ _ _)
      | (with_reducible exact calepinlaw21_first.mono _)
      | (with_reducible exact calepinlaw21_same.mono _ _ _)
      | (with_reducible exact calepinref21_Has.mono _ _ _)
      | (with_reducible exact calepinref21_Right.mono _ _)
      | (with_reducible exact calepinref21_Step.mono _ _ _)
      | (with_reducible exact calepinref21_With.mono _ _ _)
      | (with_reducible exact calepinref21_Without.mono _ _ _)
      | (with_reducible exact member_Has.mono _ _ _)
      | (with_reducible exact member_Right.mono _ _)
      | (with_reducible exact member_Step.mono _ _ _)
      | (with_reducible exact LeO.refl _)
      | (with_reducible exact LeO.none _)
      | (with_reducible refine LeO.ite ?_ ?_)
      | (with_reducible refine LeO.bind ?_ (fun _ => ?_))
      | exact ih0 _ _ _ _ _ _ _ _ _ _ _
      | exact ih1 _ _ _ _ _
      | exact ih2 _ _ _ _ _ _
      | exact ih3 _ _ _ _ _
      | exact calepinlaw21_first.mono _
      | exact calepinlaw21_same.mono _ _ _
      | exact calepinref21_Has.mono _ _ _
      | exact calepinref21_Right.mono _ _
      | exact calepinref21_Step.mono _ _ _
      | exact calepinref21_With.mono _ _ _
      | exact calepinref21_Without.mono _ _ _
      | exact member_Has.mono _ _ _
      | exact member_Right.mono _ _
      | exact member_Step.mono _ _ _
      | exact LeO.none _
      | refine LeO.ite ?_ ?_
      | refine LeO.bind ?_ (fun _ => ?_)
theorem calepinlaw21_MemberLists.mono : ∀ a0 a1 a2 k, LeO (calepinlaw21_MemberLists.f k a0 a1 a2) (calepinlaw21_MemberLists.f (k + 1) a0 a1 a2) := by
  intro a0 a1 a2 k
  obtain ⟨ih0, ih1, ih2, ih3⟩ := calepinlaw21_MemberLists.mono_l k
  unfold calepinlaw21_MemberLists.f
  repeat' first
      | (with_reducible exact ih0 _ _ _ _ _ _ _ _ _ _ _)
      | (with_reducible exact ih1 _ _ _ _ _)
      | (with_reducible exact ih2 _ _ _ _ _ _)
      | (with_reducible exact ih3 _ _ _ _ _)
      | (with_reducible exact calepinlaw21_first.mono _)
      | (with_reducible exact calepinlaw21_same.mono _ _ _)
      | (with_reducible exact calepinref21_Has.mono _ _ _)
      | (with_reducible exact calepinref21_Right.mono _ _)
      | (with_reducible exact calepinref21_Step.mono _ _ _)
      | (with_reducible exact calepinref21_With.mono _ _ _)
      | (with_reducible exact calepinref21_Without.mono _ _ _)
      | (with_reducible exact member_Has.mono _ _ _)
      | (with_reducible exact member_Right.mono _ _)
      | (with_reducible exact member_Step.mono _ _ _)
      | (with_reducible exact LeO.refl _)
      | (with_reducible exact LeO.none _)
      | (with_reducible refine LeO.ite ?_ ?_)
      | (with_reducible refine LeO.bind ?_ (fun _ => ?_))
      | exact ih0 _ _ _ _ _ _ _ _ _ _ _
      | exact ih1 _ _ _ _ _
      | exact ih2 _ _ _ _ _ _
      | exact ih3 _ _ _ _ _
      | exact calepinlaw21_first.mono _
      | exact calepinlaw21_same.mono _ _ _
      | exact calepinref21_Has.mono _ _ _
      | exact calepinref21_Right.mono _ _
      | exact calepinref21_Step.mono _ _ _
      | exact calepinref21_With.mono _ _ _
      | exact calepinref21_Without.mono _ _ _
      | exact member_Has.mono _ _ _
      | exact member_Right.mono _ _
      | exact member_Step.mono _ _ _
      | exact LeO.none _
      | refine LeO.ite ?_ ?_
      | refine LeO.bind ?_ (fun _ => ?_)
set_option maxHeartbeats 8000000 in
set_option maxRecDepth 100000 in
theorem calepinlaw21_MemberLists.calls (k : Nat) (A0 : Option Addr) (c0 : Nat) (l0 : List Int) (A1 : Option Addr) (c1 : Nat) (l1 : List Int) (a2 : Int) (r : Bool) (w : World) (hr0 : Kd.C (Kd.int .i64) w A0 l0.length l0) (hc0 : l0.length ≤ c0) (hr1 : Kd.C (Kd.int .i64) w A1 l1.length l1) (hc1 : l1.length ≤ c1) (h : calepinlaw21_MemberLists.f k l0 l1 a2 = some r) :
    Calls Try.prog 3 #[.slice A0 l0.length c0, .slice A1 l1.length c1, .int .i64 a2] w fun e w' => e = .returned (.bool r) ∧ Below w.heap.size w w' := by
  have HR0 := Aside0.mk hr0
  have HC0 := Aside0.mk hc0
  clear hr0 hc0
  have HR1 := Aside0.mk hr1
  have HC1 := Aside0.mk hc1
  clear hr1 hc1
  have HB := Aside0.mk (Below.refl w.heap.size w)
  have H : ((calepinlaw21_first.f k).bind fun t169 => (if t169 = true then (if (wrap64 ((l0.length : Int) + (l1.length : Int))) > 100 then (some true) else ((some (([] : List Int) : List Int)).bind fun y170 => (if y170.length + l0.length < 17592186044416 then ((some (y170 ++ l0 : List Int)).bind fun y173 => ((member_With.f y173 a2).bind fun bt176 => ((member_Without.f y173 a2).bind fun bt180 => ((calepinref21_With.f k l0 a2).bind fun bt184 => ((calepinref21_Without.f k l0 a2).bind fun bt188 => ((calepinlaw21_same.f k y173 l0).bind fun t192 => (if t192 = true then ((member_Right.f k y173).bind fun t193 => ((calepinref21_Right.f k l0).bind fun t194 => (if (t193 != t194) = true then (calepinlaw21_MemberLists.j0 k l0 y173 bt176.1 bt176.2 bt180.1 bt180.2 bt184.1 bt184.2 bt188.1 bt188.2 true) else ((member_Has.f k y173 a2).bind fun t195 => ((calepinref21_Has.f k l0 a2).bind fun t196 => (if (t195 != t196) = true then (calepinlaw21_MemberLists.j0 k l0 y173 bt176.1 bt176.2 bt180.1 bt180.2 bt184.1 bt184.2 bt188.1 bt188.2 true) else ((member_Step.f k y173 l1).bind fun t197 => ((calepinref21_Step.f k l0 l1).bind fun t198 => (calepinlaw21_MemberLists.j0 k l0 y173 bt176.1 bt176.2 bt180.1 bt180.2 bt184.1 bt184.2 bt188.1 bt188.2 (t197 != t198)))))))))) else (calepinlaw21_MemberLists.j0 k l0 y173 bt176.1 bt176.2 bt180.1 bt180.2 bt184.1 bt184.2 bt188.1 bt188.2 true)))))))) else (none)))) else (some false))) = some r := h
  clear h
  replace H := Option.bind_eq_some_iff.mp H
  obtain ⟨t169, A40, H⟩ := H
  replace H : (if t169 = true then (if (wrap64 ((l0.length : Int) + (l1.length : Int))) > 100 then (some true) else ((some (([] : List Int) : List Int)).bind fun y170 => (if y170.length + l0.length < 17592186044416 then ((some (y170 ++ l0 : List Int)).bind fun y173 => ((member_With.f y173 a2).bind fun bt176 => ((member_Without.f y173 a2).bind fun bt180 => ((calepinref21_With.f k l0 a2).bind fun bt184 => ((calepinref21_Without.f k l0 a2).bind fun bt188 => ((calepinlaw21_same.f k y173 l0).bind fun t192 => (if t192 = true then ((member_Right.f k y173).bind fun t193 => ((calepinref21_Right.f k l0).bind fun t194 => (if (t193 != t194) = true then (calepinlaw21_MemberLists.j0 k l0 y173 bt176.1 bt176.2 bt180.1 bt180.2 bt184.1 bt184.2 bt188.1 bt188.2 true) else ((member_Has.f k y173 a2).bind fun t195 => ((calepinref21_Has.f k l0 a2).bind fun t196 => (if (t195 != t196) = true then (calepinlaw21_MemberLists.j0 k l0 y173 bt176.1 bt176.2 bt180.1 bt180.2 bt184.1 bt184.2 bt188.1 bt188.2 true) else ((member_Step.f k y173 l1).bind fun t197 => ((calepinref21_Step.f k l0 l1).bind fun t198 => (calepinlaw21_MemberLists.j0 k l0 y173 bt176.1 bt176.2 bt180.1 bt180.2 bt184.1 bt184.2 bt188.1 bt188.2 (t197 != t198)))))))))) else (calepinlaw21_MemberLists.j0 k l0 y173 bt176.1 bt176.2 bt180.1 bt180.2 bt184.1 bt184.2 bt188.1 bt188.2 true)))))))) else (none)))) else (some false)) = some r := H
  have A4 := Aside0.mk A40
  clear A40
  by_cases c5 : t169 = true
  · subst c5
    have H1 : (if (wrap64 ((l0.length : Int) + (l1.length : Int))) > 100 then (some true) else ((some (([] : List Int) : List Int)).bind fun y170 => (if y170.length + l0.length < 17592186044416 then ((some (y170 ++ l0 : List Int)).bind fun y173 => ((member_With.f y173 a2).bind fun bt176 => ((member_Without.f y173 a2).bind fun bt180 => ((calepinref21_With.f k l0 a2).bind fun bt184 => ((calepinref21_Without.f k l0 a2).bind fun bt188 => ((calepinlaw21_same.f k y173 l0).bind fun t192 => (if t192 = true then ((member_Right.f k y173).bind fun t193 => ((calepinref21_Right.f k l0).bind fun t194 => (if (t193 != t194) = true then (calepinlaw21_MemberLists.j0 k l0 y173 bt176.1 bt176.2 bt180.1 bt180.2 bt184.1 bt184.2 bt188.1 bt188.2 true) else ((member_Has.f k y173 a2).bind fun t195 => ((calepinref21_Has.f k l0 a2).bind fun t196 => (if (t195 != t196) = true then (calepinlaw21_MemberLists.j0 k l0 y173 bt176.1 bt176.2 bt180.1 bt180.2 bt184.1 bt184.2 bt188.1 bt188.2 true) else ((member_Step.f k y173 l1).bind fun t197 => ((calepinref21_Step.f k l0 l1).bind fun t198 => (calepinlaw21_MemberLists.j0 k l0 y173 bt176.1 bt176.2 bt180.1 bt180.2 bt184.1 bt184.2 bt188.1 bt188.2 (t197 != t198)))))))))) else (calepinlaw21_MemberLists.j0 k l0 y173 bt176.1 bt176.2 bt180.1 bt180.2 bt184.1 bt184.2 bt188.1 bt188.2 true)))))))) else (none)))) = some r := by rw [if_pos rfl] at H; exact H
    clear H
    have H := H1
    clear H1
    by_cases c6 : (wrap64 ((l0.length : Int) + (l1.length : Int))) > 100
    · rw [if_pos c6] at H
      have c6b0 : decide (100 < (wrap64 ((l0.length : Int) + (l1.length : Int)))) = true := decide_eq_true c6
      clear c6
      obtain rfl := Option.some.inj H
      go_enter Try.func3, Try.ntmps3
      go_wp2_with (first | ((with_reducible refine gate_callee (f := 7) rfl ?_); refine goesL_ (some 18) rfl rfl Try.func7 (by kernel_rfl) rfl #[] rfl (by (try simp only [List.map_toArray, List.map_cons, List.map_nil]); first | done | rfl | (simp only [List.length_drop, List.length_take]; rfl)) ?_; (with_reducible refine (calepinlaw21_first.calls k  true _ A4.out).mono ?_); rintro e w7 ⟨rfl, hb⟩; refine ⟨_, rfl, ?_⟩; have n0_ := Aside0.mk (below_step (by repeat (first | (with_reducible first | exact HB.out | apply below_alloc | apply pw_below_drewN | apply below_drew1) | exact HB.out)) hb); clear HB; have HB := n0_; clear n0_; (try clear hb); (try clear hb2); (try clear hk); (try clear hi)))
      go_ret
      exact ⟨by first | rfl | (simp [errW_none, errW_some] <;> rfl) | (simp [*, errW_none, errW_some] <;> rfl), by repeat (first | (with_reducible first | exact HB.out | apply below_alloc | apply pw_below_drewN | apply below_drew1) | exact HB.out)⟩
    · rw [if_neg c6] at H
      have c6b0 : decide (100 < (wrap64 ((l0.length : Int) + (l1.length : Int)))) = false := decide_eq_false c6
      clear c6
      obtain ⟨y170, hy170⟩ : ∃ y_ : List Int, y_ = (([] : List Int)) := ⟨_, rfl⟩
      replace H : (if y170.length + l0.length < 17592186044416 then ((some (y170 ++ l0 : List Int)).bind fun y173 => ((member_With.f y173 a2).bind fun bt176 => ((member_Without.f y173 a2).bind fun bt180 => ((calepinref21_With.f k l0 a2).bind fun bt184 => ((calepinref21_Without.f k l0 a2).bind fun bt188 => ((calepinlaw21_same.f k y173 l0).bind fun t192 => (if t192 = true then ((member_Right.f k y173).bind fun t193 => ((calepinref21_Right.f k l0).bind fun t194 => (if (t193 != t194) = true then (calepinlaw21_MemberLists.j0 k l0 y173 bt176.1 bt176.2 bt180.1 bt180.2 bt184.1 bt184.2 bt188.1 bt188.2 true) else ((member_Has.f k y173 a2).bind fun t195 => ((calepinref21_Has.f k l0 a2).bind fun t196 => (if (t195 != t196) = true then (calepinlaw21_MemberLists.j0 k l0 y173 bt176.1 bt176.2 bt180.1 bt180.2 bt184.1 bt184.2 bt188.1 bt188.2 true) else ((member_Step.f k y173 l1).bind fun t197 => ((calepinref21_Step.f k l0 l1).bind fun t198 => (calepinlaw21_MemberLists.j0 k l0 y173 bt176.1 bt176.2 bt180.1 bt180.2 bt184.1 bt184.2 bt188.1 bt188.2 (t197 != t198)))))))))) else (calepinlaw21_MemberLists.j0 k l0 y173 bt176.1 bt176.2 bt180.1 bt180.2 bt184.1 bt184.2 bt188.1 bt188.2 true)))))))) else (none)) = some r := by first | (rw [hy170]; with_reducible exact H) | (have H2_ := (Option.bind_some _ _).symm.trans H; rw [hy170]; with_reducible exact H2_) | (have H2_ := (Option.bind_some _ _).symm.trans H; with_reducible exact H2_) | with_reducible exact H | (rw [hy170]; exact H) | exact H
      have Ny170 := Aside0.mk hy170
      clear hy170
      by_cases c8 : y170.length + l0.length < 17592186044416
      · rw [if_pos c8] at H
        have LMc8 := Aside0.mk c8
        clear c8
        obtain ⟨y173, hy173⟩ : ∃ y_ : List Int, y_ = (y170 ++ l0) := ⟨_, rfl⟩
        replace H : ((member_With.f y173 a2).bind fun bt176 => ((member_Without.f y173 a2).bind fun bt180 => ((calepinref21_With.f k l0 a2).bind fun bt184 => ((calepinref21_Without.f k l0 a2).bind fun bt188 => ((calepinlaw21_same.f k y173 l0).bind fun t192 => (if t192 = true then ((member_Right.f k y173).bind fun t193 => ((calepinref21_Right.f k l0).bind fun t194 => (if (t193 != t194) = true then (calepinlaw21_MemberLists.j0 k l0 y173 bt176.1 bt176.2 bt180.1 bt180.2 bt184.1 bt184.2 bt188.1 bt188.2 true) else ((member_Has.f k y173 a2).bind fun t195 => ((calepinref21_Has.f k l0 a2).bind fun t196 => (if (t195 != t196) = true then (calepinlaw21_MemberLists.j0 k l0 y173 bt176.1 bt176.2 bt180.1 bt180.2 bt184.1 bt184.2 bt188.1 bt188.2 true) else ((member_Step.f k y173 l1).bind fun t197 => ((calepinref21_Step.f k l0 l1).bind fun t198 => (calepinlaw21_MemberLists.j0 k l0 y173 bt176.1 bt176.2 bt180.1 bt180.2 bt184.1 bt184.2 bt188.1 bt188.2 (t197 != t198)))))))))) else (calepinlaw21_MemberLists.j0 k l0 y173 bt176.1 bt176.2 bt180.1 bt180.2 bt184.1 bt184.2 bt188.1 bt188.2 true))))))) = some r := by first | (rw [hy173]; with_reducible exact H) | (have H2_ := (Option.bind_some _ _).symm.trans H; rw [hy173]; with_reducible exact H2_) | (have H2_ := (Option.bind_some _ _).symm.trans H; with_reducible exact H2_) | with_reducible exact H | (rw [hy173]; exact H) | exact H
        have Ny173 := Aside0.mk hy173
        clear hy173
        replace H := Option.bind_eq_some_iff.mp H
        obtain ⟨⟨t176, t177⟩, A90, H⟩ := H
        replace H : ((member_Without.f y173 a2).bind fun bt180 => ((calepinref21_With.f k l0 a2).bind fun bt184 => ((calepinref21_Without.f k l0 a2).bind fun bt188 => ((calepinlaw21_same.f k y173 l0).bind fun t192 => (if t192 = true then ((member_Right.f k y173).bind fun t193 => ((calepinref21_Right.f k l0).bind fun t194 => (if (t193 != t194) = true then (calepinlaw21_MemberLists.j0 k l0 y173 t176 t177 bt180.1 bt180.2 bt184.1 bt184.2 bt188.1 bt188.2 true) else ((member_Has.f k y173 a2).bind fun t195 => ((calepinref21_Has.f k l0 a2).bind fun t196 => (if (t195 != t196) = true then (calepinlaw21_MemberLists.j0 k l0 y173 t176 t177 bt180.1 bt180.2 bt184.1 bt184.2 bt188.1 bt188.2 true) else ((member_Step.f k y173 l1).bind fun t197 => ((calepinref21_Step.f k l0 l1).bind fun t198 => (calepinlaw21_MemberLists.j0 k l0 y173 t176 t177 bt180.1 bt180.2 bt184.1 bt184.2 bt188.1 bt188.2 (t197 != t198)))))))))) else (calepinlaw21_MemberLists.j0 k l0 y173 t176 t177 bt180.1 bt180.2 bt184.1 bt184.2 bt188.1 bt188.2 true)))))) = some r := H
        have A9 := Aside0.mk A90
        clear A90
        replace H := Option.bind_eq_some_iff.mp H
        obtain ⟨⟨t180, t181⟩, A100, H⟩ := H
        replace H : ((calepinref21_With.f k l0 a2).bind fun bt184 => ((calepinref21_Without.f k l0 a2).bind fun bt188 => ((calepinlaw21_same.f k y173 l0).bind fun t192 => (if t192 = true then ((member_Right.f k y173).bind fun t193 => ((calepinref21_Right.f k l0).bind fun t194 => (if (t193 != t194) = true then (calepinlaw21_MemberLists.j0 k l0 y173 t176 t177 t180 t181 bt184.1 bt184.2 bt188.1 bt188.2 true) else ((member_Has.f k y173 a2).bind fun t195 => ((calepinref21_Has.f k l0 a2).bind fun t196 => (if (t195 != t196) = true then (calepinlaw21_MemberLists.j0 k l0 y173 t176 t177 t180 t181 bt184.1 bt184.2 bt188.1 bt188.2 true) else ((member_Step.f k y173 l1).bind fun t197 => ((calepinref21_Step.f k l0 l1).bind fun t198 => (calepinlaw21_MemberLists.j0 k l0 y173 t176 t177 t180 t181 bt184.1 bt184.2 bt188.1 bt188.2 (t197 != t198)))))))))) else (calepinlaw21_MemberLists.j0 k l0 y173 t176 t177 t180 t181 bt184.1 bt184.2 bt188.1 bt188.2 true))))) = some r := H
        have A10 := Aside0.mk A100
        clear A100
        replace H := Option.bind_eq_some_iff.mp H
        obtain ⟨⟨t184, t185⟩, A110, H⟩ := H
        replace H : ((calepinref21_Without.f k l0 a2).bind fun bt188 => ((calepinlaw21_same.f k y173 l0).bind fun t192 => (if t192 = true then ((member_Right.f k y173).bind fun t193 => ((calepinref21_Right.f k l0).bind fun t194 => (if (t193 != t194) = true then (calepinlaw21_MemberLists.j0 k l0 y173 t176 t177 t180 t181 t184 t185 bt188.1 bt188.2 true) else ((member_Has.f k y173 a2).bind fun t195 => ((calepinref21_Has.f k l0 a2).bind fun t196 => (if (t195 != t196) = true then (calepinlaw21_MemberLists.j0 k l0 y173 t176 t177 t180 t181 t184 t185 bt188.1 bt188.2 true) else ((member_Step.f k y173 l1).bind fun t197 => ((calepinref21_Step.f k l0 l1).bind fun t198 => (calepinlaw21_MemberLists.j0 k l0 y173 t176 t177 t180 t181 t184 t185 bt188.1 bt188.2 (t197 != t198)))))))))) else (calepinlaw21_MemberLists.j0 k l0 y173 t176 t177 t180 t181 t184 t185 bt188.1 bt188.2 true)))) = some r := H
        have A11 := Aside0.mk A110
        clear A110
        replace H := Option.bind_eq_some_iff.mp H
        obtain ⟨⟨t188, t189⟩, A120, H⟩ := H
        replace H : ((calepinlaw21_same.f k y173 l0).bind fun t192 => (if t192 = true then ((member_Right.f k y173).bind fun t193 => ((calepinref21_Right.f k l0).bind fun t194 => (if (t193 != t194) = true then (calepinlaw21_MemberLists.j0 k l0 y173 t176 t177 t180 t181 t184 t185 t188 t189 true) else ((member_Has.f k y173 a2).bind fun t195 => ((calepinref21_Has.f k l0 a2).bind fun t196 => (if (t195 != t196) = true then (calepinlaw21_MemberLists.j0 k l0 y173 t176 t177 t180 t181 t184 t185 t188 t189 true) else ((member_Step.f k y173 l1).bind fun t197 => ((calepinref21_Step.f k l0 l1).bind fun t198 => (calepinlaw21_MemberLists.j0 k l0 y173 t176 t177 t180 t181 t184 t185 t188 t189 (t197 != t198)))))))))) else (calepinlaw21_MemberLists.j0 k l0 y173 t176 t177 t180 t181 t184 t185 t188 t189 true))) = some r := H
        have A12 := Aside0.mk A120
        clear A120
        have HC13 := Aside0.mk H
        clear H
        go_enter Try.func3, Try.ntmps3
        go_upto_region 10 with (first | ((with_reducible refine gate_callee (f := 7) rfl ?_); refine goesL_ (some 18) rfl rfl Try.func7 (by kernel_rfl) rfl #[] rfl (by (try simp only [List.map_toArray, List.map_cons, List.map_nil]); first | done | rfl | (simp only [List.length_drop, List.length_take]; rfl)) ?_; (with_reducible refine (calepinlaw21_first.calls k  true _ A4.out).mono ?_); rintro e w14 ⟨rfl, hb⟩; refine ⟨_, rfl, ?_⟩; have n0_ := Aside0.mk (below_step (by repeat (first | (with_reducible first | exact HB.out | apply below_alloc | apply pw_below_drewN | apply below_drew1) | exact HB.out)) hb); clear HB; have HB := n0_; clear n0_; (try clear hb); (try clear hb2); (try clear hk); (try clear hi)) | ((with_reducible refine gate_dst (N := 26) rfl ?_); (try (refine gate_guard (by rfl) ?_; dsimp only)); refine Kd.R_lit (Kd.int .i64) _ 3 ?hg (N := 26) ?hd (xs := ([] : List Int)) (inner := []) (ok := fun _ => True) (okp := fun _ => True) ?hr ?hp (fun _ hk => hk) trivial (Below.refl _ _) (Nat.le_refl _) (by simp) ?_; (case hd => rfl); (case hg => rfl); (case hr => first | (go_simp; done) | (go_simp; rfl)); (case hp => exact (Reps.none _ _)); intro v171 w15 ho16 hb hg_ hnew_; clear hg_ hnew_; (first | rw [← Ny170.out] at ho16 | (simp only [Int.reduceToNat] at ho16; rw [← Ny170.out] at ho16)); have n0_ := Aside0.mk (Kd.R_lower ho16 (below_size (by repeat (first | (with_reducible first | exact HB.out | apply below_alloc | apply pw_below_drewN | apply below_drew1) | exact HB.out)))); have n1_ := Aside0.mk (below_step (by repeat (first | (with_reducible first | exact HB.out | apply below_alloc | apply pw_below_drewN | apply below_drew1) | exact HB.out)) hb); clear HB; have HO172 := n0_; have HB := n1_; clear n0_ n1_; clear hb ho16) | ((with_reducible refine gate_builtin (b := .append) (xs := #[.tmp 26, .tmp 27]) rfl ?_); (try (refine gate_guard (by rfl) ?_; dsimp only)); at_builtin; refine Kd.R_append_rows (Kd.int .i64) (w0 := w) w.heap.size rfl (.tmp 26) (.tmp 27) 22 3 (.int .i64 0) 8 rfl Try.underlying22 info3 rfl (by decide) (by omega) v171 y170 l0 _ _ _ (fun _ => True) (fun _ => False) rfl rfl ?aO ?aR (fun _ _ h => h) (fun _ h => h.elim) ?aF ?aB ?aS ?aL ?_; (case aR => repeat (first | exact (Kd.C_below HR0.out HB.out) | (with_reducible refine Kd.C_alloc ?_ _) | (with_reducible refine Kd.C_drewN ?_ _) | (with_reducible refine Kd.C_drew ?_))); (case aB => exact (by repeat (first | (with_reducible first | exact HB.out | apply below_alloc | apply pw_below_drewN | apply below_drew1) | exact HB.out))); (case aF => exact (fun _ _ => trivial)); (case aO => exact (by (with_reducible repeat (first | apply Kd.R_alloc | apply Kd.R_drewN | apply Kd.R_drew)); exact HO172.out)); (case aS => exact (below_size (by repeat (first | (with_reducible first | exact HB.out | apply below_alloc | apply pw_below_drewN | apply below_drew1) | exact HB.out)))); (case aL => have := LMc8.out; omega); intro v174 w17 ho hb hg hat; rw [← Ny173.out] at ho; have n0_ := Aside0.mk (hb); have n1_ := Aside0.mk (ho); clear HB; clear HO172; have HB := n0_; have HO175 := n1_; clear n0_ n1_; clear ho hb hg hat; obtain ⟨Ao18, co18, eo18⟩ := Kd.R_slice HO175.out; subst eo18) | ((with_reducible refine gate_callee (f := 8) rfl ?_); refine goesL_ (some 32) rfl rfl Try.func8 (by kernel_rfl) rfl #[.slice Ao18 y173.length co18, .int .i64 a2] rfl (by (try simp only [List.map_toArray, List.map_cons, List.map_nil]); first | done | rfl | (simp only [List.length_drop, List.length_take]; rfl)) ?_; (with_reducible refine (member_With.calls _ _ y173 a2 t176 t177 _ ?side1 ?side2 A9.out).mono ?_); (case side1 => repeat (first | exact (Kd.R_reads' HO175.out).2.2 | (with_reducible refine Kd.C_alloc ?_ _) | (with_reducible refine Kd.C_drewN ?_ _) | (with_reducible refine Kd.C_drew ?_))); (case side2 => exact (Kd.R_reads' HO175.out).2.1); rintro e w19 ⟨v178, rfl, ho0, hb⟩; refine ⟨_, rfl, ?_⟩; have n0_ := Aside0.mk (Kd.R_elder' (by (with_reducible repeat (first | apply Kd.R_alloc | apply Kd.R_drewN | apply Kd.R_drew)); exact HO175.out) (Kd.R_base ho0) hb); have n1_ := Aside0.mk (Kd.R_lower (Kd.R_new' ho0 (Kd.R_lt (by (with_reducible repeat (first | apply Kd.R_alloc | apply Kd.R_drewN | apply Kd.R_drew)); exact HO175.out))) (below_size (by repeat (first | (with_reducible first | exact HB.out | apply below_alloc | apply pw_below_drewN | apply below_drew1) | exact HB.out)))); have n2_ := Aside0.mk (below_step (by repeat (first | (with_reducible first | exact HB.out | apply below_alloc | apply pw_below_drewN | apply below_drew1) | exact HB.out)) hb); clear HO175; clear HB; have HO175 := n0_; have HO179 := n1_; have HB := n2_; clear n0_ n1_ n2_; (try clear hb); (try clear hb2); (try clear hk); (try clear hi); (try clear ho0)) | ((with_reducible refine gate_callee (f := 9) rfl ?_); refine goesL_ (some 38) rfl rfl Try.func9 (by kernel_rfl) rfl #[.slice Ao18 y173.length co18, .int .i64 a2] rfl (by (try simp only [List.map_toArray, List.map_cons, List.map_nil]); first | done | rfl | (simp only [List.length_drop, List.length_take]; rfl)) ?_; (with_reducible refine (member_Without.calls _ _ y173 a2 t180 t181 _ ?side1 ?side2 A10.out).mono ?_); (case side1 => repeat (first | exact (Kd.R_reads' HO175.out).2.2 | (with_reducible refine Kd.C_alloc ?_ _) | (with_reducible refine Kd.C_drewN ?_ _) | (with_reducible refine Kd.C_drew ?_))); (case side2 => exact (Kd.R_reads' HO175.out).2.1); rintro e w20 ⟨v182, rfl, ho0, hb⟩; refine ⟨_, rfl, ?_⟩; have n0_ := Aside0.mk (Kd.R_elder' (by (with_reducible repeat (first | apply Kd.R_alloc | apply Kd.R_drewN | apply Kd.R_drew)); exact HO175.out) (Kd.R_base ho0) hb); have n1_ := Aside0.mk (Kd.R_elder' (by (with_reducible repeat (first | apply Kd.R_alloc | apply Kd.R_drewN | apply Kd.R_drew)); exact HO179.out) (Kd.R_base ho0) hb); have n2_ := Aside0.mk (Kd.R_lower (Kd.R_new' (Kd.R_new' ho0 (Kd.R_lt (by (with_reducible repeat (first | apply Kd.R_alloc | apply Kd.R_drewN | apply Kd.R_drew)); exact HO175.out))) (Kd.R_lt (by (with_reducible repeat (first | apply Kd.R_alloc | apply Kd.R_drewN | apply Kd.R_drew)); exact HO179.out))) (below_size (by repeat (first | (with_reducible first | exact HB.out | apply below_alloc | apply pw_below_drewN | apply below_drew1) | exact HB.out)))); have n3_ := Aside0.mk (below_step (by repeat (first | (with_reducible first | exact HB.out | apply below_alloc | apply pw_below_drewN | apply below_drew1) | exact HB.out)) hb); clear HO175; clear HO179; clear HB; have HO175 := n0_; have HO179 := n1_; have HO183 := n2_; have HB := n3_; clear n0_ n1_ n2_ n3_; (try clear hb); (try clear hb2); (try clear hk); (try clear hi); (try clear ho0)) | ((with_reducible refine gate_callee (f := 10) rfl ?_); refine goesL_ (some 44) rfl rfl Try.func10 (by kernel_rfl) rfl #[.slice A0 l0.length c0, .int .i64 a2] rfl (by (try simp only [List.map_toArray, List.map_cons, List.map_nil]); first | done | rfl | (simp only [List.length_drop, List.length_take]; rfl)) ?_; (with_reducible refine (calepinref21_With.calls k _ _ l0 a2 t184 t185 _ ?side1 ?side2 A11.out).mono ?_); (case side1 => repeat (first | exact (Kd.C_below HR0.out HB.out) | (with_reducible refine Kd.C_alloc ?_ _) | (with_reducible refine Kd.C_drewN ?_ _) | (with_reducible refine Kd.C_drew ?_))); (case side2 => exact HC0.out); rintro e w21 ⟨v186, rfl, ho0, hb⟩; refine ⟨_, rfl, ?_⟩; have n0_ := Aside0.mk (Kd.R_elder' (by (with_reducible repeat (first | apply Kd.R_alloc | apply Kd.R_drewN | apply Kd.R_drew)); exact HO175.out) (Kd.R_base ho0) hb); have n1_ := Aside0.mk (Kd.R_elder' (by (with_reducible repeat (first | apply Kd.R_alloc | apply Kd.R_drewN | apply Kd.R_drew)); exact HO179.out) (Kd.R_base ho0) hb); have n2_ := Aside0.mk (Kd.R_elder' (by (with_reducible repeat (first | apply Kd.R_alloc | apply Kd.R_drewN | apply Kd.R_drew)); exact HO183.out) (Kd.R_base ho0) hb); have n3_ := Aside0.mk (Kd.R_lower (Kd.R_new' (Kd.R_new' (Kd.R_new' ho0 (Kd.R_lt (by (with_reducible repeat (first | apply Kd.R_alloc | apply Kd.R_drewN | apply Kd.R_drew)); exact HO175.out))) (Kd.R_lt (by (with_reducible repeat (first | apply Kd.R_alloc | apply Kd.R_drewN | apply Kd.R_drew)); exact HO179.out))) (Kd.R_lt (by (with_reducible repeat (first | apply Kd.R_alloc | apply Kd.R_drewN | apply Kd.R_drew)); exact HO183.out))) (below_size (by repeat (first | (with_reducible first | exact HB.out | apply below_alloc | apply pw_below_drewN | apply below_drew1) | exact HB.out)))); have n4_ := Aside0.mk (below_step (by repeat (first | (with_reducible first | exact HB.out | apply below_alloc | apply pw_below_drewN | apply below_drew1) | exact HB.out)) hb); clear HO175; clear HO179; clear HO183; clear HB; have HO175 := n0_; have HO179 := n1_; have HO183 := n2_; have HO187 := n3_; have HB := n4_; clear n0_ n1_ n2_ n3_ n4_; (try clear hb); (try clear hb2); (try clear hk); (try clear hi); (try clear ho0)) | ((with_reducible refine gate_callee (f := 11) rfl ?_); refine goesL_ (some 50) rfl rfl Try.func11 (by kernel_rfl) rfl #[.slice A0 l0.length c0, .int .i64 a2] rfl (by (try simp only [List.map_toArray, List.map_cons, List.map_nil]); first | done | rfl | (simp only [List.length_drop, List.length_take]; rfl)) ?_; (with_reducible refine (calepinref21_Without.calls k _ _ l0 a2 t188 t189 _ ?side1 ?side2 A12.out).mono ?_); (case side1 => repeat (first | exact (Kd.C_below HR0.out HB.out) | (with_reducible refine Kd.C_alloc ?_ _) | (with_reducible refine Kd.C_drewN ?_ _) | (with_reducible refine Kd.C_drew ?_))); (case side2 => exact HC0.out); rintro e w22 ⟨v190, rfl, ho0, hb⟩; refine ⟨_, rfl, ?_⟩; have n0_ := Aside0.mk (Kd.R_elder' (by (with_reducible repeat (first | apply Kd.R_alloc | apply Kd.R_drewN | apply Kd.R_drew)); exact HO175.out) (Kd.R_base ho0) hb); have n1_ := Aside0.mk (Kd.R_elder' (by (with_reducible repeat (first | apply Kd.R_alloc | apply Kd.R_drewN | apply Kd.R_drew)); exact HO179.out) (Kd.R_base ho0) hb); have n2_ := Aside0.mk (Kd.R_elder' (by (with_reducible repeat (first | apply Kd.R_alloc | apply Kd.R_drewN | apply Kd.R_drew)); exact HO183.out) (Kd.R_base ho0) hb); have n3_ := Aside0.mk (Kd.R_elder' (by (with_reducible repeat (first | apply Kd.R_alloc | apply Kd.R_drewN | apply Kd.R_drew)); exact HO187.out) (Kd.R_base ho0) hb); have n4_ := Aside0.mk (Kd.R_lower (Kd.R_new' (Kd.R_new' (Kd.R_new' (Kd.R_new' ho0 (Kd.R_lt (by (with_reducible repeat (first | apply Kd.R_alloc | apply Kd.R_drewN | apply Kd.R_drew)); exact HO175.out))) (Kd.R_lt (by (with_reducible repeat (first | apply Kd.R_alloc | apply Kd.R_drewN | apply Kd.R_drew)); exact HO179.out))) (Kd.R_lt (by (with_reducible repeat (first | apply Kd.R_alloc | apply Kd.R_drewN | apply Kd.R_drew)); exact HO183.out))) (Kd.R_lt (by (with_reducible repeat (first | apply Kd.R_alloc | apply Kd.R_drewN | apply Kd.R_drew)); exact HO187.out))) (below_size (by repeat (first | (with_reducible first | exact HB.out | apply below_alloc | apply pw_below_drewN | apply below_drew1) | exact HB.out)))); have n5_ := Aside0.mk (below_step (by repeat (first | (with_reducible first | exact HB.out | apply below_alloc | apply pw_below_drewN | apply below_drew1) | exact HB.out)) hb); clear HO175; clear HO179; clear HO183; clear HO187; clear HB; have HO175 := n0_; have HO179 := n1_; have HO183 := n2_; have HO187 := n3_; have HO191 := n4_; have HB := n5_; clear n0_ n1_ n2_ n3_ n4_ n5_; (try clear hb); (try clear hb2); (try clear hk); (try clear hi); (try clear ho0)))
        (try simp only [Act.put, List.setIfInBounds_toArray, List.set_cons_zero, List.set_cons_succ])
        go_cut [81] (fun v81 wc => ∃ (kq : Nat) (x81_12 : Bool), v81 = .bool x81_12 ∧ Aside0 (calepinlaw21_MemberLists.j0 kq l0 y173 t176 t177 t180 t181 t184 t185 t188 t189 x81_12 = some r) ∧ Aside0 (kq ≤ k) ∧ Aside0 (Kd.R (Kd.int .i64) 3 wc w.heap.size (fun k_ => some k_ ≠ (v178 : Value).ownBlock ∧ some k_ ≠ (v182 : Value).ownBlock ∧ some k_ ≠ (v186 : Value).ownBlock ∧ some k_ ≠ (v190 : Value).ownBlock) (.slice Ao18 y173.length co18) y173) ∧ Aside0 (Kd.R (Kd.int .i64) 3 wc w.heap.size (fun k_ => some k_ ≠ ((.slice Ao18 y173.length co18) : Value).ownBlock ∧ some k_ ≠ (v182 : Value).ownBlock ∧ some k_ ≠ (v186 : Value).ownBlock ∧ some k_ ≠ (v190 : Value).ownBlock) v178 t176) ∧ Aside0 (Kd.R (Kd.int .i64) 3 wc w.heap.size (fun k_ => some k_ ≠ ((.slice Ao18 y173.length co18) : Value).ownBlock ∧ some k_ ≠ (v178 : Value).ownBlock ∧ some k_ ≠ (v186 : Value).ownBlock ∧ some k_ ≠ (v190 : Value).ownBlock) v182 t180) ∧ Aside0 (Kd.R (Kd.int .i64) 3 wc w.heap.size (fun k_ => some k_ ≠ ((.slice Ao18 y173.length co18) : Value).ownBlock ∧ some k_ ≠ (v178 : Value).ownBlock ∧ some k_ ≠ (v182 : Value).ownBlock ∧ some k_ ≠ (v190 : Value).ownBlock) v186 t184) ∧ Aside0 (Kd.R (Kd.int .i64) 3 wc w.heap.size (fun k_ => some k_ ≠ ((.slice Ao18 y173.length co18) : Value).ownBlock ∧ some k_ ≠ (v178 : Value).ownBlock ∧ some k_ ≠ (v182 : Value).ownBlock ∧ some k_ ≠ (v186 : Value).ownBlock) v190 t188) ∧ Aside0 (Below w.heap.size w wc))
        case first =>
          have H := HC13.out
          clear HC13
          replace H := Option.bind_eq_some_iff.mp H
          obtain ⟨t192, A230, H⟩ := H
          replace H : (if t192 = true then ((member_Right.f k y173).bind fun t193 => ((calepinref21_Right.f k l0).bind fun t194 => (if (t193 != t194) = true then (calepinlaw21_MemberLists.j0 k l0 y173 t176 t177 t180 t181 t184 t185 t188 t189 true) else ((member_Has.f k y173 a2).bind fun t195 => ((calepinref21_Has.f k l0 a2).bind fun t196 => (if (t195 != t196) = true then (calepinlaw21_MemberLists.j0 k l0 y173 t176 t177 t180 t181 t184 t185 t188 t189 true) else ((member_Step.f k y173 l1).bind fun t197 => ((calepinref21_Step.f k l0 l1).bind fun t198 => (calepinlaw21_MemberLists.j0 k l0 y173 t176 t177 t180 t181 t184 t185 t188 t189 (t197 != t198)))))))))) else (calepinlaw21_MemberLists.j0 k l0 y173 t176 t177 t180 t181 t184 t185 t188 t189 true)) = some r := H
          have A23 := Aside0.mk A230
          clear A230
          by_cases c24 : t192 = true
          · subst c24
            have H1 : ((member_Right.f k y173).bind fun t193 => ((calepinref21_Right.f k l0).bind fun t194 => (if (t193 != t194) = true then (calepinlaw21_MemberLists.j0 k l0 y173 t176 t177 t180 t181 t184 t185 t188 t189 true) else ((member_Has.f k y173 a2).bind fun t195 => ((calepinref21_Has.f k l0 a2).bind fun t196 => (if (t195 != t196) = true then (calepinlaw21_MemberLists.j0 k l0 y173 t176 t177 t180 t181 t184 t185 t188 t189 true) else ((member_Step.f k y173 l1).bind fun t197 => ((calepinref21_Step.f k l0 l1).bind fun t198 => (calepinlaw21_MemberLists.j0 k l0 y173 t176 t177 t180 t181 t184 t185 t188 t189 (t197 != t198)))))))))) = some r := by rw [if_pos rfl] at H; exact H
            clear H
            have H := H1
            clear H1
            replace H := Option.bind_eq_some_iff.mp H
            obtain ⟨t193, A250, H⟩ := H
            replace H : ((calepinref21_Right.f k l0).bind fun t194 => (if (t193 != t194) = true then (calepinlaw21_MemberLists.j0 k l0 y173 t176 t177 t180 t181 t184 t185 t188 t189 true) else ((member_Has.f k y173 a2).bind fun t195 => ((calepinref21_Has.f k l0 a2).bind fun t196 => (if (t195 != t196) = true then (calepinlaw21_MemberLists.j0 k l0 y173 t176 t177 t180 t181 t184 t185 t188 t189 true) else ((member_Step.f k y173 l1).bind fun t197 => ((calepinref21_Step.f k l0 l1).bind fun t198 => (calepinlaw21_MemberLists.j0 k l0 y173 t176 t177 t180 t181 t184 t185 t188 t189 (t197 != t198))))))))) = some r := H
            have A25 := Aside0.mk A250
            clear A250
            replace H := Option.bind_eq_some_iff.mp H
            obtain ⟨t194, A260, H⟩ := H
            replace H : (if (t193 != t194) = true then (calepinlaw21_MemberLists.j0 k l0 y173 t176 t177 t180 t181 t184 t185 t188 t189 true) else ((member_Has.f k y173 a2).bind fun t195 => ((calepinref21_Has.f k l0 a2).bind fun t196 => (if (t195 != t196) = true then (calepinlaw21_MemberLists.j0 k l0 y173 t176 t177 t180 t181 t184 t185 t188 t189 true) else ((member_Step.f k y173 l1).bind fun t197 => ((calepinref21_Step.f k l0 l1).bind fun t198 => (calepinlaw21_MemberLists.j0 k l0 y173 t176 t177 t180 t181 t184 t185 t188 t189 (t197 != t198)))))))) = some r := H
            have A26 := Aside0.mk A260
            clear A260
            by_cases c27 : (t193 != t194) = true
            · rw [if_pos c27] at H
              have c27b0 : (t193 != t194) = true := c27
              (try (have c27b1 : decide (t193 = t194) = false := by simpa using c27))
              (try (have c27b2 : (t193 == t194) = false := by simpa using c27))
              (try (have c27b3 : ¬ (t193 = t194) := by simpa using c27))
              clear c27
              (first | rw [c27b0] | (simp only [i64_w, i32_w]; rw [c27b0]) | skip)
              have H' := Aside0.mk H
              clear H
              go_wp2_with (first | ((with_reducible refine gate_callee (f := 12) rfl ?_); refine goesL_ (some 55) rfl rfl Try.func12 (by kernel_rfl) rfl #[.slice Ao18 y173.length co18, .slice A0 l0.length c0] rfl (by (try simp only [List.map_toArray, List.map_cons, List.map_nil]); first | done | rfl | (simp only [List.length_drop, List.length_take]; rfl)) ?_; (with_reducible refine (calepinlaw21_same.calls k _ _ y173 _ _ l0 true _ ?side1 ?side2 ?side3 ?side4 A23.out).mono ?_); (case side1 => repeat (first | exact (Kd.R_reads' HO175.out).2.2 | (with_reducible refine Kd.C_alloc ?_ _) | (with_reducible refine Kd.C_drewN ?_ _) | (with_reducible refine Kd.C_drew ?_))); (case side2 => exact (Kd.R_reads' HO175.out).2.1); (case side3 => repeat (first | exact (Kd.C_below HR0.out HB.out) | (with_reducible refine Kd.C_alloc ?_ _) | (with_reducible refine Kd.C_drewN ?_ _) | (with_reducible refine Kd.C_drew ?_))); (case side4 => exact HC0.out); rintro e w' ⟨rfl, ⟨nd, rfl⟩⟩; refine ⟨_, rfl, ?_⟩) | (go_at_call 13; (with_reducible refine (member_Right.calls k _ _ y173 t193 _ ?side1 ?side2 A25.out).mono ?_); (case side1 => repeat (first | exact (Kd.R_reads' HO175.out).2.2 | (with_reducible refine Kd.C_alloc ?_ _) | (with_reducible refine Kd.C_drewN ?_ _) | (with_reducible refine Kd.C_drew ?_))); (case side2 => exact (Kd.R_reads' HO175.out).2.1); rintro e w' ⟨rfl, ⟨nd, rfl⟩⟩) | (go_at_call 14; (with_reducible refine (calepinref21_Right.calls k _ _ l0 t194 _ ?side1 ?side2 A26.out).mono ?_); (case side1 => repeat (first | exact (Kd.C_below HR0.out (by repeat (first | (with_reducible first | exact HB.out | apply below_alloc | apply pw_below_drewN | apply below_drew1) | exact HB.out))) | (with_reducible refine Kd.C_alloc ?_ _) | (with_reducible refine Kd.C_drewN ?_ _) | (with_reducible refine Kd.C_drew ?_))); (case side2 => exact HC0.out); rintro e w' ⟨rfl, ⟨nd, rfl⟩⟩))
              go_meet
              case rel => exact ⟨_, (true), (by first | rfl | (simp; done) | (simp [*]; done)), H', ⟨by first | omega | exact Nat.le_refl _⟩, ⟨by (with_reducible repeat (first | apply Kd.R_alloc | apply Kd.R_drewN | apply Kd.R_drew)); exact Kd.R_mono HO175.out (fun _ hk => ⟨hk.1.1.1.2, ⟨hk.1.1.2, ⟨hk.1.2, hk.2⟩⟩⟩)⟩, ⟨by (with_reducible repeat (first | apply Kd.R_alloc | apply Kd.R_drewN | apply Kd.R_drew)); exact Kd.R_mono HO179.out (fun _ hk => ⟨hk.1.1.1.2, ⟨hk.1.1.2, ⟨hk.1.2, hk.2⟩⟩⟩)⟩, ⟨by (with_reducible repeat (first | apply Kd.R_alloc | apply Kd.R_drewN | apply Kd.R_drew)); exact Kd.R_mono HO183.out (fun _ hk => ⟨hk.1.1.1.2, ⟨hk.1.1.2, ⟨hk.1.2, hk.2⟩⟩⟩)⟩, ⟨by (with_reducible repeat (first | apply Kd.R_alloc | apply Kd.R_drewN | apply Kd.R_drew)); exact Kd.R_mono HO187.out (fun _ hk => ⟨hk.1.1.1.2, ⟨hk.1.1.2, ⟨hk.1.2, hk.2⟩⟩⟩)⟩, ⟨by (with_reducible repeat (first | apply Kd.R_alloc | apply Kd.R_drewN | apply Kd.R_drew)); exact Kd.R_mono HO191.out (fun _ hk => ⟨hk.1.1.1.2, ⟨hk.1.1.2, ⟨hk.1.2, hk.2⟩⟩⟩)⟩, ⟨by repeat (first | (with_reducible first | exact HB.out | apply below_alloc | apply pw_below_drewN | apply below_drew1) | exact HB.out)⟩⟩
            · rw [if_neg c27] at H
              have c27b0 : (t193 != t194) = false := by simpa using c27
              (try (have c27b1 : decide (t193 = t194) = true := by simpa using c27))
              (try (have c27b2 : (t193 == t194) = true := by simpa using c27))
              clear c27
              (first | rw [c27b0] | (simp only [i64_w, i32_w]; rw [c27b0]) | skip)
              replace H := Option.bind_eq_some_iff.mp H
              obtain ⟨t195, A280, H⟩ := H
              replace H : ((calepinref21_Has.f k l0 a2).bind fun t196 => (if (t195 != t196) = true then (calepinlaw21_MemberLists.j0 k l0 y173 t176 t177 t180 t181 t184 t185 t188 t189 true) else ((member_Step.f k y173 l1).bind fun t197 => ((calepinref21_Step.f k l0 l1).bind fun t198 => (calepinlaw21_MemberLists.j0 k l0 y173 t176 t177 t180 t181 t184 t185 t188 t189 (t197 != t198)))))) = some r := H
              have A28 := Aside0.mk A280
              clear A280
              replace H := Option.bind_eq_some_iff.mp H
              obtain ⟨t196, A290, H⟩ := H
              replace H : (if (t195 != t196) = true then (calepinlaw21_MemberLists.j0 k l0 y173 t176 t177 t180 t181 t184 t185 t188 t189 true) else ((member_Step.f k y173 l1).bind fun t197 => ((calepinref21_Step.f k l0 l1).bind fun t198 => (calepinlaw21_MemberLists.j0 k l0 y173 t176 t177 t180 t181 t184 t185 t188 t189 (t197 != t198))))) = some r := H
              have A29 := Aside0.mk A290
              clear A290
              by_cases c30 : (t195 != t196) = true
              · rw [if_pos c30] at H
                have c30b0 : (t195 != t196) = true := c30
                (try (have c30b1 : decide (t195 = t196) = false := by simpa using c30))
                (try (have c30b2 : (t195 == t196) = false := by simpa using c30))
                (try (have c30b3 : ¬ (t195 = t196) := by simpa using c30))
                clear c30
                have H' := Aside0.mk H
                clear H
                go_wp2_with (first | ((with_reducible refine gate_callee (f := 12) rfl ?_); refine goesL_ (some 55) rfl rfl Try.func12 (by kernel_rfl) rfl #[.slice Ao18 y173.length co18, .slice A0 l0.length c0] rfl (by (try simp only [List.map_toArray, List.map_cons, List.map_nil]); first | done | rfl | (simp only [List.length_drop, List.length_take]; rfl)) ?_; (with_reducible refine (calepinlaw21_same.calls k _ _ y173 _ _ l0 true _ ?side1 ?side2 ?side3 ?side4 A23.out).mono ?_); (case side1 => repeat (first | exact (Kd.R_reads' HO175.out).2.2 | (with_reducible refine Kd.C_alloc ?_ _) | (with_reducible refine Kd.C_drewN ?_ _) | (with_reducible refine Kd.C_drew ?_))); (case side2 => exact (Kd.R_reads' HO175.out).2.1); (case side3 => repeat (first | exact (Kd.C_below HR0.out HB.out) | (with_reducible refine Kd.C_alloc ?_ _) | (with_reducible refine Kd.C_drewN ?_ _) | (with_reducible refine Kd.C_drew ?_))); (case side4 => exact HC0.out); rintro e w' ⟨rfl, ⟨nd, rfl⟩⟩; refine ⟨_, rfl, ?_⟩) | (go_at_call 13; (with_reducible refine (member_Right.calls k _ _ y173 t193 _ ?side1 ?side2 A25.out).mono ?_); (case side1 => repeat (first | exact (Kd.R_reads' HO175.out).2.2 | (with_reducible refine Kd.C_alloc ?_ _) | (with_reducible refine Kd.C_drewN ?_ _) | (with_reducible refine Kd.C_drew ?_))); (case side2 => exact (Kd.R_reads' HO175.out).2.1); rintro e w' ⟨rfl, ⟨nd, rfl⟩⟩) | (go_at_call 14; (with_reducible refine (calepinref21_Right.calls k _ _ l0 t194 _ ?side1 ?side2 A26.out).mono ?_); (case side1 => repeat (first | exact (Kd.C_below HR0.out (by repeat (first | (with_reducible first | exact HB.out | apply below_alloc | apply pw_below_drewN | apply below_drew1) | exact HB.out))) | (with_reducible refine Kd.C_alloc ?_ _) | (with_reducible refine Kd.C_drewN ?_ _) | (with_reducible refine Kd.C_drew ?_))); (case side2 => exact HC0.out); rintro e w' ⟨rfl, ⟨nd, rfl⟩⟩) | (go_at_call 15; (with_reducible refine (member_Has.calls k _ _ y173 a2 t195 _ ?side1 ?side2 A28.out).mono ?_); (case side1 => repeat (first | exact (Kd.R_reads' HO175.out).2.2 | (with_reducible refine Kd.C_alloc ?_ _) | (with_reducible refine Kd.C_drewN ?_ _) | (with_reducible refine Kd.C_drew ?_))); (case side2 => exact (Kd.R_reads' HO175.out).2.1); rintro e w' ⟨rfl, ⟨nd, rfl⟩⟩) | (go_at_call 16; (with_reducible refine (calepinref21_Has.calls k _ _ l0 a2 t196 _ ?side1 ?side2 A29.out).mono ?_); (case side1 => repeat (first | exact (Kd.C_below HR0.out (by repeat (first | (with_reducible first | exact HB.out | apply below_alloc | apply pw_below_drewN | apply below_drew1) | exact HB.out))) | (with_reducible refine Kd.C_alloc ?_ _) | (with_reducible refine Kd.C_drewN ?_ _) | (with_reducible refine Kd.C_drew ?_))); (case side2 => exact HC0.out); rintro e w' ⟨rfl, ⟨nd, rfl⟩⟩))
                go_meet
                case rel => exact ⟨_, (true), (by first | rfl | (simp; done) | (simp [*]; done)), H', ⟨by first | omega | exact Nat.le_refl _⟩, ⟨by (with_reducible repeat (first | apply Kd.R_alloc | apply Kd.R_drewN | apply Kd.R_drew)); exact Kd.R_mono HO175.out (fun _ hk => ⟨hk.1.1.1.2, ⟨hk.1.1.2, ⟨hk.1.2, hk.2⟩⟩⟩)⟩, ⟨by (with_reducible repeat (first | apply Kd.R_alloc | apply Kd.R_drewN | apply Kd.R_drew)); exact Kd.R_mono HO179.out (fun _ hk => ⟨hk.1.1.1.2, ⟨hk.1.1.2, ⟨hk.1.2, hk.2⟩⟩⟩)⟩, ⟨by (with_reducible repeat (first | apply Kd.R_alloc | apply Kd.R_drewN | apply Kd.R_drew)); exact Kd.R_mono HO183.out (fun _ hk => ⟨hk.1.1.1.2, ⟨hk.1.1.2, ⟨hk.1.2, hk.2⟩⟩⟩)⟩, ⟨by (with_reducible repeat (first | apply Kd.R_alloc | apply Kd.R_drewN | apply Kd.R_drew)); exact Kd.R_mono HO187.out (fun _ hk => ⟨hk.1.1.1.2, ⟨hk.1.1.2, ⟨hk.1.2, hk.2⟩⟩⟩)⟩, ⟨by (with_reducible repeat (first | apply Kd.R_alloc | apply Kd.R_drewN | apply Kd.R_drew)); exact Kd.R_mono HO191.out (fun _ hk => ⟨hk.1.1.1.2, ⟨hk.1.1.2, ⟨hk.1.2, hk.2⟩⟩⟩)⟩, ⟨by repeat (first | (with_reducible first | exact HB.out | apply below_alloc | apply pw_below_drewN | apply below_drew1) | exact HB.out)⟩⟩
              · rw [if_neg c30] at H
                have c30b0 : (t195 != t196) = false := by simpa using c30
                (try (have c30b1 : decide (t195 = t196) = true := by simpa using c30))
                (try (have c30b2 : (t195 == t196) = true := by simpa using c30))
                clear c30
                replace H := Option.bind_eq_some_iff.mp H
                obtain ⟨t197, A310, H⟩ := H
                replace H : ((calepinref21_Step.f k l0 l1).bind fun t198 => (calepinlaw21_MemberLists.j0 k l0 y173 t176 t177 t180 t181 t184 t185 t188 t189 (t197 != t198))) = some r := H
                have A31 := Aside0.mk A310
                clear A310
                replace H := Option.bind_eq_some_iff.mp H
                obtain ⟨t198, A320, H⟩ := H
                replace H : (calepinlaw21_MemberLists.j0 k l0 y173 t176 t177 t180 t181 t184 t185 t188 t189 (t197 != t198)) = some r := H
                have A32 := Aside0.mk A320
                clear A320
                have H' := Aside0.mk H
                clear H
                go_wp2_with (first | ((with_reducible refine gate_callee (f := 12) rfl ?_); refine goesL_ (some 55) rfl rfl Try.func12 (by kernel_rfl) rfl #[.slice Ao18 y173.length co18, .slice A0 l0.length c0] rfl (by (try simp only [List.map_toArray, List.map_cons, List.map_nil]); first | done | rfl | (simp only [List.length_drop, List.length_take]; rfl)) ?_; (with_reducible refine (calepinlaw21_same.calls k _ _ y173 _ _ l0 true _ ?side1 ?side2 ?side3 ?side4 A23.out).mono ?_); (case side1 => repeat (first | exact (Kd.R_reads' HO175.out).2.2 | (with_reducible refine Kd.C_alloc ?_ _) | (with_reducible refine Kd.C_drewN ?_ _) | (with_reducible refine Kd.C_drew ?_))); (case side2 => exact (Kd.R_reads' HO175.out).2.1); (case side3 => repeat (first | exact (Kd.C_below HR0.out HB.out) | (with_reducible refine Kd.C_alloc ?_ _) | (with_reducible refine Kd.C_drewN ?_ _) | (with_reducible refine Kd.C_drew ?_))); (case side4 => exact HC0.out); rintro e w' ⟨rfl, ⟨nd, rfl⟩⟩; refine ⟨_, rfl, ?_⟩) | (go_at_call 13; (with_reducible refine (member_Right.calls k _ _ y173 t193 _ ?side1 ?side2 A25.out).mono ?_); (case side1 => repeat (first | exact (Kd.R_reads' HO175.out).2.2 | (with_reducible refine Kd.C_alloc ?_ _) | (with_reducible refine Kd.C_drewN ?_ _) | (with_reducible refine Kd.C_drew ?_))); (case side2 => exact (Kd.R_reads' HO175.out).2.1); rintro e w' ⟨rfl, ⟨nd, rfl⟩⟩) | (go_at_call 14; (with_reducible refine (calepinref21_Right.calls k _ _ l0 t194 _ ?side1 ?side2 A26.out).mono ?_); (case side1 => repeat (first | exact (Kd.C_below HR0.out (by repeat (first | (with_reducible first | exact HB.out | apply below_alloc | apply pw_below_drewN | apply below_drew1) | exact HB.out))) | (with_reducible refine Kd.C_alloc ?_ _) | (with_reducible refine Kd.C_drewN ?_ _) | (with_reducible refine Kd.C_drew ?_))); (case side2 => exact HC0.out); rintro e w' ⟨rfl, ⟨nd, rfl⟩⟩) | (go_at_call 15; (with_reducible refine (member_Has.calls k _ _ y173 a2 t195 _ ?side1 ?side2 A28.out).mono ?_); (case side1 => repeat (first | exact (Kd.R_reads' HO175.out).2.2 | (with_reducible refine Kd.C_alloc ?_ _) | (with_reducible refine Kd.C_drewN ?_ _) | (with_reducible refine Kd.C_drew ?_))); (case side2 => exact (Kd.R_reads' HO175.out).2.1); rintro e w' ⟨rfl, ⟨nd, rfl⟩⟩) | (go_at_call 16; (with_reducible refine (calepinref21_Has.calls k _ _ l0 a2 t196 _ ?side1 ?side2 A29.out).mono ?_); (case side1 => repeat (first | exact (Kd.C_below HR0.out (by repeat (first | (with_reducible first | exact HB.out | apply below_alloc | apply pw_below_drewN | apply below_drew1) | exact HB.out))) | (with_reducible refine Kd.C_alloc ?_ _) | (with_reducible refine Kd.C_drewN ?_ _) | (with_reducible refine Kd.C_drew ?_))); (case side2 => exact HC0.out); rintro e w' ⟨rfl, ⟨nd, rfl⟩⟩) | (go_at_call 17; (with_reducible refine (member_Step.calls k _ _ y173 _ _ l1 t197 _ ?side1 ?side2 ?side3 ?side4 A31.out).mono ?_); (case side1 => repeat (first | exact (Kd.R_reads' HO175.out).2.2 | (with_reducible refine Kd.C_alloc ?_ _) | (with_reducible refine Kd.C_drewN ?_ _) | (with_reducible refine Kd.C_drew ?_))); (case side2 => exact (Kd.R_reads' HO175.out).2.1); (case side3 => repeat (first | exact (Kd.C_below HR1.out (by repeat (first | (with_reducible first | exact HB.out | apply below_alloc | apply pw_below_drewN | apply below_drew1) | exact HB.out))) | (with_reducible refine Kd.C_alloc ?_ _) | (with_reducible refine Kd.C_drewN ?_ _) | (with_reducible refine Kd.C_drew ?_))); (case side4 => exact HC1.out); rintro e w' ⟨rfl, ⟨nd, rfl⟩⟩) | (go_at_call 18; (with_reducible refine (calepinref21_Step.calls k _ _ l0 _ _ l1 t198 _ ?side1 ?side2 ?side3 ?side4 A32.out).mono ?_); (case side1 => repeat (first | exact (Kd.C_below HR0.out (by repeat (first | (with_reducible first | exact HB.out | apply below_alloc | apply pw_below_drewN | apply below_drew1) | exact HB.out))) | (with_reducible refine Kd.C_alloc ?_ _) | (with_reducible refine Kd.C_drewN ?_ _) | (with_reducible refine Kd.C_drew ?_))); (case side2 => exact HC0.out); (case side3 => repeat (first | exact (Kd.C_below HR1.out (by repeat (first | (with_reducible first | exact HB.out | apply below_alloc | apply pw_below_drewN | apply below_drew1) | exact HB.out))) | (with_reducible refine Kd.C_alloc ?_ _) | (with_reducible refine Kd.C_drewN ?_ _) | (with_reducible refine Kd.C_drew ?_))); (case side4 => exact HC1.out); rintro e w' ⟨rfl, ⟨nd, rfl⟩⟩))
                go_meet
                case rel => exact ⟨_, ((t197 != t198)), (by first | rfl | (simp; done) | (simp [*]; done)), H', ⟨by first | omega | exact Nat.le_refl _⟩, ⟨by (with_reducible repeat (first | apply Kd.R_alloc | apply Kd.R_drewN | apply Kd.R_drew)); exact Kd.R_mono HO175.out (fun _ hk => ⟨hk.1.1.1.2, ⟨hk.1.1.2, ⟨hk.1.2, hk.2⟩⟩⟩)⟩, ⟨by (with_reducible repeat (first | apply Kd.R_alloc | apply Kd.R_drewN | apply Kd.R_drew)); exact Kd.R_mono HO179.out (fun _ hk => ⟨hk.1.1.1.2, ⟨hk.1.1.2, ⟨hk.1.2, hk.2⟩⟩⟩)⟩, ⟨by (with_reducible repeat (first | apply Kd.R_alloc | apply Kd.R_drewN | apply Kd.R_drew)); exact Kd.R_mono HO183.out (fun _ hk => ⟨hk.1.1.1.2, ⟨hk.1.1.2, ⟨hk.1.2, hk.2⟩⟩⟩)⟩, ⟨by (with_reducible repeat (first | apply Kd.R_alloc | apply Kd.R_drewN | apply Kd.R_drew)); exact Kd.R_mono HO187.out (fun _ hk => ⟨hk.1.1.1.2, ⟨hk.1.1.2, ⟨hk.1.2, hk.2⟩⟩⟩)⟩, ⟨by (with_reducible repeat (first | apply Kd.R_alloc | apply Kd.R_drewN | apply Kd.R_drew)); exact Kd.R_mono HO191.out (fun _ hk => ⟨hk.1.1.1.2, ⟨hk.1.1.2, ⟨hk.1.2, hk.2⟩⟩⟩)⟩, ⟨by repeat (first | (with_reducible first | exact HB.out | apply below_alloc | apply pw_below_drewN | apply below_drew1) | exact HB.out)⟩⟩
          · replace c24 := Bool.eq_false_iff.mpr c24
            subst c24
            have H1 : (calepinlaw21_MemberLists.j0 k l0 y173 t176 t177 t180 t181 t184 t185 t188 t189 true) = some r := by rw [if_neg (show ¬ (false = true) by decide)] at H; exact H
            clear H
            have H := H1
            clear H1
            have H' := Aside0.mk H
            clear H
            go_wp2_with (first | ((with_reducible refine gate_callee (f := 12) rfl ?_); refine goesL_ (some 55) rfl rfl Try.func12 (by kernel_rfl) rfl #[.slice Ao18 y173.length co18, .slice A0 l0.length c0] rfl (by (try simp only [List.map_toArray, List.map_cons, List.map_nil]); first | done | rfl | (simp only [List.length_drop, List.length_take]; rfl)) ?_; (with_reducible refine (calepinlaw21_same.calls k _ _ y173 _ _ l0 false _ ?side1 ?side2 ?side3 ?side4 A23.out).mono ?_); (case side1 => repeat (first | exact (Kd.R_reads' HO175.out).2.2 | (with_reducible refine Kd.C_alloc ?_ _) | (with_reducible refine Kd.C_drewN ?_ _) | (with_reducible refine Kd.C_drew ?_))); (case side2 => exact (Kd.R_reads' HO175.out).2.1); (case side3 => repeat (first | exact (Kd.C_below HR0.out HB.out) | (with_reducible refine Kd.C_alloc ?_ _) | (with_reducible refine Kd.C_drewN ?_ _) | (with_reducible refine Kd.C_drew ?_))); (case side4 => exact HC0.out); rintro e w' ⟨rfl, ⟨nd, rfl⟩⟩; refine ⟨_, rfl, ?_⟩))
            go_meet
            case rel => exact ⟨_, (true), (by first | rfl | (simp; done) | (simp [*]; done)), H', ⟨by first | omega | exact Nat.le_refl _⟩, ⟨by (with_reducible repeat (first | apply Kd.R_alloc | apply Kd.R_drewN | apply Kd.R_drew)); exact Kd.R_mono HO175.out (fun _ hk => ⟨hk.1.1.1.2, ⟨hk.1.1.2, ⟨hk.1.2, hk.2⟩⟩⟩)⟩, ⟨by (with_reducible repeat (first | apply Kd.R_alloc | apply Kd.R_drewN | apply Kd.R_drew)); exact Kd.R_mono HO179.out (fun _ hk => ⟨hk.1.1.1.2, ⟨hk.1.1.2, ⟨hk.1.2, hk.2⟩⟩⟩)⟩, ⟨by (with_reducible repeat (first | apply Kd.R_alloc | apply Kd.R_drewN | apply Kd.R_drew)); exact Kd.R_mono HO183.out (fun _ hk => ⟨hk.1.1.1.2, ⟨hk.1.1.2, ⟨hk.1.2, hk.2⟩⟩⟩)⟩, ⟨by (with_reducible repeat (first | apply Kd.R_alloc | apply Kd.R_drewN | apply Kd.R_drew)); exact Kd.R_mono HO187.out (fun _ hk => ⟨hk.1.1.1.2, ⟨hk.1.1.2, ⟨hk.1.2, hk.2⟩⟩⟩)⟩, ⟨by (with_reducible repeat (first | apply Kd.R_alloc | apply Kd.R_drewN | apply Kd.R_drew)); exact Kd.R_mono HO191.out (fun _ hk => ⟨hk.1.1.1.2, ⟨hk.1.1.2, ⟨hk.1.2, hk.2⟩⟩⟩)⟩, ⟨by repeat (first | (with_reducible first | exact HB.out | apply below_alloc | apply pw_below_drewN | apply below_drew1) | exact HB.out)⟩⟩
        case rest =>
          clear HC13
          try clear c1
          try clear c2
          try clear p2
          try clear c3
          try clear c5
          try clear c6
          try clear c6b0
          try clear p6
          try clear c7
          try clear c8
          try clear c9
          try clear c10
          try clear c11
          try clear c12
          try clear c24
          try clear c27
          try clear c27b0
          try clear c27b1
          try clear c27b2
          try clear c30
          try clear c30b0
          try clear c30b1
          try clear c30b2
          obtain ⟨kq, x81_12, rfl, HA, HJ12, HO_7, HO_8, HO_10, HO_12, HO_14, HB⟩ := hcut
          cases kq with
          | zero => exact absurd HA.out (by simp [calepinlaw21_MemberLists.j0])
          | succ kj12 =>
            have H := HA.out
            clear HA
            simp only [calepinlaw21_MemberLists.j0] at H
            by_cases c33 : x81_12 = true
            · subst c33
              have H1 : (some false) = some r := by rw [if_pos rfl] at H; exact H
              clear H
              have H := H1
              clear H1
              obtain rfl := Option.some.inj H
              go_wp2
              go_ret
              exact ⟨by first | rfl | (simp [errW_none, errW_some] <;> rfl) | (simp [*, errW_none, errW_some] <;> rfl), by repeat (first | (with_reducible first | exact HB.out | apply below_alloc | apply pw_below_drewN | apply below_drew1) | exact HB.out)⟩
            · replace c33 := Bool.eq_false_iff.mpr c33
              subst c33
              have H1 : ((calepinref21_Right.f kj12 l0).bind fun t199 => (if t199 = true then (if (t177 != t185) = true then (calepinlaw21_MemberLists.j1 kj12 l0 y173 t176 t180 true) else (if t185 = true then ((calepinlaw21_same.f kj12 t176 t184).bind fun t200 => (if t200 = true then (if (t181 != t189) = true then (calepinlaw21_MemberLists.j1 kj12 l0 y173 t176 t180 true) else (if t189 = true then ((calepinlaw21_same.f kj12 t180 t188).bind fun t201 => (if t201 = true then (calepinlaw21_MemberLists.j1 kj12 l0 y173 t176 t180 false) else (calepinlaw21_MemberLists.j1 kj12 l0 y173 t176 t180 true))) else (calepinlaw21_MemberLists.j1 kj12 l0 y173 t176 t180 (decide ((t180.length : Int) > 0))))) else (calepinlaw21_MemberLists.j1 kj12 l0 y173 t176 t180 true))) else (if (t176.length : Int) > 0 then (calepinlaw21_MemberLists.j1 kj12 l0 y173 t176 t180 true) else (if (t181 != t189) = true then (calepinlaw21_MemberLists.j1 kj12 l0 y173 t176 t180 true) else (if t189 = true then ((calepinlaw21_same.f kj12 t180 t188).bind fun t202 => (if t202 = true then (calepinlaw21_MemberLists.j1 kj12 l0 y173 t176 t180 false) else (calepinlaw21_MemberLists.j1 kj12 l0 y173 t176 t180 true))) else (calepinlaw21_MemberLists.j1 kj12 l0 y173 t176 t180 (decide ((t180.length : Int) > 0)))))))) else (if (t181 != t189) = true then (calepinlaw21_MemberLists.j1 kj12 l0 y173 t176 t180 true) else (if t189 = true then ((calepinlaw21_same.f kj12 t180 t188).bind fun t203 => (if t203 = true then (calepinlaw21_MemberLists.j1 kj12 l0 y173 t176 t180 false) else (calepinlaw21_MemberLists.j1 kj12 l0 y173 t176 t180 true))) else (calepinlaw21_MemberLists.j1 kj12 l0 y173 t176 t180 (decide ((t180.length : Int) > 0))))))) = some r := by rw [if_neg (show ¬ (false = true) by decide)] at H; exact H
              clear H
              have H := H1
              clear H1
              have HC34 := Aside0.mk H
              clear H
              go_upto_region 12 with (fail)
              go_cut [129] (fun v129 wc => ∃ (kq : Nat) (x129_33 : Bool), v129 = .bool x129_33 ∧ Aside0 (calepinlaw21_MemberLists.j1 kq l0 y173 t176 t180 x129_33 = some r) ∧ Aside0 (kq ≤ kj12) ∧ Aside0 (Kd.R (Kd.int .i64) 3 wc w.heap.size (fun k_ => some k_ ≠ (v178 : Value).ownBlock ∧ some k_ ≠ (v182 : Value).ownBlock) (.slice Ao18 y173.length co18) y173) ∧ Aside0 (Kd.R (Kd.int .i64) 3 wc w.heap.size (fun k_ => some k_ ≠ ((.slice Ao18 y173.length co18) : Value).ownBlock ∧ some k_ ≠ (v182 : Value).ownBlock) v178 t176) ∧ Aside0 (Kd.R (Kd.int .i64) 3 wc w.heap.size (fun k_ => some k_ ≠ ((.slice Ao18 y173.length co18) : Value).ownBlock ∧ some k_ ≠ (v178 : Value).ownBlock) v182 t180) ∧ Aside0 (Below w.heap.size w wc))
              case first =>
                have H := HC34.out
                clear HC34
                replace H := Option.bind_eq_some_iff.mp H
                obtain ⟨t199, A350, H⟩ := H
                replace H : (if t199 = true then (if (t177 != t185) = true then (calepinlaw21_MemberLists.j1 kj12 l0 y173 t176 t180 true) else (if t185 = true then ((calepinlaw21_same.f kj12 t176 t184).bind fun t200 => (if t200 = true then (if (t181 != t189) = true then (calepinlaw21_MemberLists.j1 kj12 l0 y173 t176 t180 true) else (if t189 = true then ((calepinlaw21_same.f kj12 t180 t188).bind fun t201 => (if t201 = true then (calepinlaw21_MemberLists.j1 kj12 l0 y173 t176 t180 false) else (calepinlaw21_MemberLists.j1 kj12 l0 y173 t176 t180 true))) else (calepinlaw21_MemberLists.j1 kj12 l0 y173 t176 t180 (decide ((t180.length : Int) > 0))))) else (calepinlaw21_MemberLists.j1 kj12 l0 y173 t176 t180 true))) else (if (t176.length : Int) > 0 then (calepinlaw21_MemberLists.j1 kj12 l0 y173 t176 t180 true) else (if (t181 != t189) = true then (calepinlaw21_MemberLists.j1 kj12 l0 y173 t176 t180 true) else (if t189 = true then ((calepinlaw21_same.f kj12 t180 t188).bind fun t202 => (if t202 = true then (calepinlaw21_MemberLists.j1 kj12 l0 y173 t176 t180 false) else (calepinlaw21_MemberLists.j1 kj12 l0 y173 t176 t180 true))) else (calepinlaw21_MemberLists.j1 kj12 l0 y173 t176 t180 (decide ((t180.length : Int) > 0)))))))) else (if (t181 != t189) = true then (calepinlaw21_MemberLists.j1 kj12 l0 y173 t176 t180 true) else (if t189 = true then ((calepinlaw21_same.f kj12 t180 t188).bind fun t203 => (if t203 = true then (calepinlaw21_MemberLists.j1 kj12 l0 y173 t176 t180 false) else (calepinlaw21_MemberLists.j1 kj12 l0 y173 t176 t180 true))) else (calepinlaw21_MemberLists.j1 kj12 l0 y173 t176 t180 (decide ((t180.length : Int) > 0)))))) = some r := H
                have A35 := Aside0.mk A350
                clear A350
                by_cases c36 : t199 = true
                · subst c36
                  have H1 : (if (t177 != t185) = true then (calepinlaw21_MemberLists.j1 kj12 l0 y173 t176 t180 true) else (if t185 = true then ((calepinlaw21_same.f kj12 t176 t184).bind fun t200 => (if t200 = true then (if (t181 != t189) = true then (calepinlaw21_MemberLists.j1 kj12 l0 y173 t176 t180 true) else (if t189 = true then ((calepinlaw21_same.f kj12 t180 t188).bind fun t201 => (if t201 = true then (calepinlaw21_MemberLists.j1 kj12 l0 y173 t176 t180 false) else (calepinlaw21_MemberLists.j1 kj12 l0 y173 t176 t180 true))) else (calepinlaw21_MemberLists.j1 kj12 l0 y173 t176 t180 (decide ((t180.length : Int) > 0))))) else (calepinlaw21_MemberLists.j1 kj12 l0 y173 t176 t180 true))) else (if (t176.length : Int) > 0 then (calepinlaw21_MemberLists.j1 kj12 l0 y173 t176 t180 true) else (if (t181 != t189) = true then (calepinlaw21_MemberLists.j1 kj12 l0 y173 t176 t180 true) else (if t189 = true then ((calepinlaw21_same.f kj12 t180 t188).bind fun t202 => (if t202 = true then (calepinlaw21_MemberLists.j1 kj12 l0 y173 t176 t180 false) else (calepinlaw21_MemberLists.j1 kj12 l0 y173 t176 t180 true))) else (calepinlaw21_MemberLists.j1 kj12 l0 y173 t176 t180 (decide ((t180.length : Int) > 0)))))))) = some r := by rw [if_pos rfl] at H; exact H
                  clear H
                  have H := H1
                  clear H1
                  by_cases c37 : (t177 != t185) = true
                  · rw [if_pos c37] at H
                    have c37b0 : (t177 != t185) = true := c37
                    (try (have c37b1 : decide (t177 = t185) = false := by simpa using c37))
                    (try (have c37b2 : (t177 == t185) = false := by simpa using c37))
                    (try (have c37b3 : ¬ (t177 = t185) := by simpa using c37))
                    clear c37
                    (first | rw [c37b0] | (simp only [i64_w, i32_w]; rw [c37b0]) | skip)
                    have H' := Aside0.mk H
                    clear H
                    go_wp2_with (first | ((with_reducible refine gate_callee (f := 14) rfl ?_); refine goesL_ (some 83) rfl rfl Try.func14 (by kernel_rfl) rfl #[.slice A0 l0.length c0] rfl (by (try simp only [List.map_toArray, List.map_cons, List.map_nil]); first | done | rfl | (simp only [List.length_drop, List.length_take]; rfl)) ?_; (with_reducible refine (calepinref21_Right.calls kj12 _ _ l0 true _ ?side1 ?side2 A35.out).mono ?_); (case side1 => repeat (first | exact (Kd.C_below HR0.out HB.out) | (with_reducible refine Kd.C_alloc ?_ _) | (with_reducible refine Kd.C_drewN ?_ _) | (with_reducible refine Kd.C_drew ?_))); (case side2 => exact HC0.out); rintro e w' ⟨rfl, ⟨nd, rfl⟩⟩; refine ⟨_, rfl, ?_⟩))
                    go_meet
                    case rel => exact ⟨_, (true), (by first | rfl | (simp; done) | (simp [*]; done)), H', ⟨by have := HJ12.out; first | omega | exact Nat.le_refl _⟩, ⟨by (with_reducible repeat (first | apply Kd.R_alloc | apply Kd.R_drewN | apply Kd.R_drew)); exact Kd.R_mono HO_7.out (fun _ hk => ⟨hk.1, hk.2.1⟩)⟩, ⟨by (with_reducible repeat (first | apply Kd.R_alloc | apply Kd.R_drewN | apply Kd.R_drew)); exact Kd.R_mono HO_8.out (fun _ hk => ⟨hk.1, hk.2.1⟩)⟩, ⟨by (with_reducible repeat (first | apply Kd.R_alloc | apply Kd.R_drewN | apply Kd.R_drew)); exact Kd.R_mono HO_10.out (fun _ hk => ⟨hk.1, hk.2.1⟩)⟩, ⟨by repeat (first | (with_reducible first | exact HB.out | apply below_alloc | apply pw_below_drewN | apply below_drew1) | exact HB.out)⟩⟩
                  · rw [if_neg c37] at H
                    have c37b0 : (t177 != t185) = false := by simpa using c37
                    (try (have c37b1 : decide (t177 = t185) = true := by simpa using c37))
                    (try (have c37b2 : (t177 == t185) = true := by simpa using c37))
                    clear c37
                    (first | rw [c37b0] | (simp only [i64_w, i32_w]; rw [c37b0]) | skip)
                    by_cases c38 : t185 = true
                    · subst c38
                      have H1 : ((calepinlaw21_same.f kj12 t176 t184).bind fun t200 => (if t200 = true then (if (t181 != t189) = true then (calepinlaw21_MemberLists.j1 kj12 l0 y173 t176 t180 true) else (if t189 = true then ((calepinlaw21_same.f kj12 t180 t188).bind fun t201 => (if t201 = true then (calepinlaw21_MemberLists.j1 kj12 l0 y173 t176 t180 false) else (calepinlaw21_MemberLists.j1 kj12 l0 y173 t176 t180 true))) else (calepinlaw21_MemberLists.j1 kj12 l0 y173 t176 t180 (decide ((t180.length : Int) > 0))))) else (calepinlaw21_MemberLists.j1 kj12 l0 y173 t176 t180 true))) = some r := by rw [if_pos rfl] at H; exact H
                      clear H
                      have H := H1
                      clear H1
                      replace H := Option.bind_eq_some_iff.mp H
                      obtain ⟨t200, A390, H⟩ := H
                      replace H : (if t200 = true then (if (t181 != t189) = true then (calepinlaw21_MemberLists.j1 kj12 l0 y173 t176 t180 true) else (if t189 = true then ((calepinlaw21_same.f kj12 t180 t188).bind fun t201 => (if t201 = true then (calepinlaw21_MemberLists.j1 kj12 l0 y173 t176 t180 false) else (calepinlaw21_MemberLists.j1 kj12 l0 y173 t176 t180 true))) else (calepinlaw21_MemberLists.j1 kj12 l0 y173 t176 t180 (decide ((t180.length : Int) > 0))))) else (calepinlaw21_MemberLists.j1 kj12 l0 y173 t176 t180 true)) = some r := H
                      have A39 := Aside0.mk A390
                      clear A390
                      by_cases c40 : t200 = true
                      · subst c40
                        have H1 : (if (t181 != t189) = true then (calepinlaw21_MemberLists.j1 kj12 l0 y173 t176 t180 true) else (if t189 = true then ((calepinlaw21_same.f kj12 t180 t188).bind fun t201 => (if t201 = true then (calepinlaw21_MemberLists.j1 kj12 l0 y173 t176 t180 false) else (calepinlaw21_MemberLists.j1 kj12 l0 y173 t176 t180 true))) else (calepinlaw21_MemberLists.j1 kj12 l0 y173 t176 t180 (decide ((t180.length : Int) > 0))))) = some r := by rw [if_pos rfl] at H; exact H
                        clear H
                        have H := H1
                        clear H1
                        by_cases c41 : (t181 != t189) = true
                        · rw [if_pos c41] at H
                          have c41b0 : (t181 != t189) = true := c41
                          (try (have c41b1 : decide (t181 = t189) = false := by simpa using c41))
                          (try (have c41b2 : (t181 == t189) = false := by simpa using c41))
                          (try (have c41b3 : ¬ (t181 = t189) := by simpa using c41))
                          clear c41
                          have H' := Aside0.mk H
                          clear H
                          go_wp2_with (first | ((with_reducible refine gate_callee (f := 14) rfl ?_); refine goesL_ (some 83) rfl rfl Try.func14 (by kernel_rfl) rfl #[.slice A0 l0.length c0] rfl (by (try simp only [List.map_toArray, List.map_cons, List.map_nil]); first | done | rfl | (simp only [List.length_drop, List.length_take]; rfl)) ?_; (with_reducible refine (calepinref21_Right.calls kj12 _ _ l0 true _ ?side1 ?side2 A35.out).mono ?_); (case side1 => repeat (first | exact (Kd.C_below HR0.out HB.out) | (with_reducible refine Kd.C_alloc ?_ _) | (with_reducible refine Kd.C_drewN ?_ _) | (with_reducible refine Kd.C_drew ?_))); (case side2 => exact HC0.out); rintro e w' ⟨rfl, ⟨nd, rfl⟩⟩; refine ⟨_, rfl, ?_⟩; obtain ⟨Ao42, co42, eo42⟩ := Kd.R_slice HO_8.out; subst eo42; obtain ⟨Ao43, co43, eo43⟩ := Kd.R_slice HO_12.out; subst eo43) | (go_at_call 12; (with_reducible refine (calepinlaw21_same.calls kj12 _ _ t176 _ _ t184 true _ ?side1 ?side2 ?side3 ?side4 A39.out).mono ?_); (case side1 => repeat (first | exact (Kd.R_reads' HO_8.out).2.2 | (with_reducible refine Kd.C_alloc ?_ _) | (with_reducible refine Kd.C_drewN ?_ _) | (with_reducible refine Kd.C_drew ?_))); (case side2 => exact (Kd.R_reads' HO_8.out).2.1); (case side3 => repeat (first | exact (Kd.R_reads' HO_12.out).2.2 | (with_reducible refine Kd.C_alloc ?_ _) | (with_reducible refine Kd.C_drewN ?_ _) | (with_reducible refine Kd.C_drew ?_))); (case side4 => exact (Kd.R_reads' HO_12.out).2.1); rintro e w' ⟨rfl, ⟨nd, rfl⟩⟩))
                          go_meet
                          case rel => exact ⟨_, (true), (by first | rfl | (simp; done) | (simp [*]; done)), H', ⟨by have := HJ12.out; first | omega | exact Nat.le_refl _⟩, ⟨by (with_reducible repeat (first | apply Kd.R_alloc | apply Kd.R_drewN | apply Kd.R_drew)); exact Kd.R_mono HO_7.out (fun _ hk => ⟨hk.1, hk.2.1⟩)⟩, ⟨by (with_reducible repeat (first | apply Kd.R_alloc | apply Kd.R_drewN | apply Kd.R_drew)); exact Kd.R_mono HO_8.out (fun _ hk => ⟨hk.1, hk.2.1⟩)⟩, ⟨by (with_reducible repeat (first | apply Kd.R_alloc | apply Kd.R_drewN | apply Kd.R_drew)); exact Kd.R_mono HO_10.out (fun _ hk => ⟨hk.1, hk.2.1⟩)⟩, ⟨by repeat (first | (with_reducible first | exact HB.out | apply below_alloc | apply pw_below_drewN | apply below_drew1) | exact HB.out)⟩⟩
                        · rw [if_neg c41] at H
                          have c41b0 : (t181 != t189) = false := by simpa using c41
                          (try (have c41b1 : decide (t181 = t189) = true := by simpa using c41))
                          (try (have c41b2 : (t181 == t189) = true := by simpa using c41))
                          clear c41
                          by_cases c44 : t189 = true
                          · subst c44
                            have H1 : ((calepinlaw21_same.f kj12 t180 t188).bind fun t201 => (if t201 = true then (calepinlaw21_MemberLists.j1 kj12 l0 y173 t176 t180 false) else (calepinlaw21_MemberLists.j1 kj12 l0 y173 t176 t180 true))) = some r := by rw [if_pos rfl] at H; exact H
                            clear H
                            have H := H1
                            clear H1
                            replace H := Option.bind_eq_some_iff.mp H
                            obtain ⟨t201, A450, H⟩ := H
                            replace H : (if t201 = true then (calepinlaw21_MemberLists.j1 kj12 l0 y173 t176 t180 false) else (calepinlaw21_MemberLists.j1 kj12 l0 y173 t176 t180 true)) = some r := H
                            have A45 := Aside0.mk A450
                            clear A450
                            by_cases c46 : t201 = true
                            · subst c46
                              have H1 : (calepinlaw21_MemberLists.j1 kj12 l0 y173 t176 t180 false) = some r := by rw [if_pos rfl] at H; exact H
                              clear H
                              have H := H1
                              clear H1
                              have H' := Aside0.mk H
                              clear H
                              go_wp2_with (first | ((with_reducible refine gate_callee (f := 14) rfl ?_); refine goesL_ (some 83) rfl rfl Try.func14 (by kernel_rfl) rfl #[.slice A0 l0.length c0] rfl (by (try simp only [List.map_toArray, List.map_cons, List.map_nil]); first | done | rfl | (simp only [List.length_drop, List.length_take]; rfl)) ?_; (with_reducible refine (calepinref21_Right.calls kj12 _ _ l0 true _ ?side1 ?side2 A35.out).mono ?_); (case side1 => repeat (first | exact (Kd.C_below HR0.out HB.out) | (with_reducible refine Kd.C_alloc ?_ _) | (with_reducible refine Kd.C_drewN ?_ _) | (with_reducible refine Kd.C_drew ?_))); (case side2 => exact HC0.out); rintro e w' ⟨rfl, ⟨nd, rfl⟩⟩; refine ⟨_, rfl, ?_⟩; obtain ⟨Ao47, co47, eo47⟩ := Kd.R_slice HO_8.out; subst eo47; obtain ⟨Ao48, co48, eo48⟩ := Kd.R_slice HO_12.out; subst eo48) | (go_at_call 12; (with_reducible refine (calepinlaw21_same.calls kj12 _ _ t176 _ _ t184 true _ ?side1 ?side2 ?side3 ?side4 A39.out).mono ?_); (case side1 => repeat (first | exact (Kd.R_reads' HO_8.out).2.2 | (with_reducible refine Kd.C_alloc ?_ _) | (with_reducible refine Kd.C_drewN ?_ _) | (with_reducible refine Kd.C_drew ?_))); (case side2 => exact (Kd.R_reads' HO_8.out).2.1); (case side3 => repeat (first | exact (Kd.R_reads' HO_12.out).2.2 | (with_reducible refine Kd.C_alloc ?_ _) | (with_reducible refine Kd.C_drewN ?_ _) | (with_reducible refine Kd.C_drew ?_))); (case side4 => exact (Kd.R_reads' HO_12.out).2.1); rintro e w' ⟨rfl, ⟨nd, rfl⟩⟩; obtain ⟨Ao49, co49, eo49⟩ := Kd.R_slice HO_10.out; subst eo49; obtain ⟨Ao50, co50, eo50⟩ := Kd.R_slice HO_14.out; subst eo50) | (go_at_call 12; (with_reducible refine (calepinlaw21_same.calls kj12 _ _ t180 _ _ t188 true _ ?side1 ?side2 ?side3 ?side4 A45.out).mono ?_); (case side1 => repeat (first | exact (Kd.R_reads' HO_10.out).2.2 | (with_reducible refine Kd.C_alloc ?_ _) | (with_reducible refine Kd.C_drewN ?_ _) | (with_reducible refine Kd.C_drew ?_))); (case side2 => exact (Kd.R_reads' HO_10.out).2.1); (case side3 => repeat (first | exact (Kd.R_reads' HO_14.out).2.2 | (with_reducible refine Kd.C_alloc ?_ _) | (with_reducible refine Kd.C_drewN ?_ _) | (with_reducible refine Kd.C_drew ?_))); (case side4 => exact (Kd.R_reads' HO_14.out).2.1); rintro e w' ⟨rfl, ⟨nd, rfl⟩⟩))
                              go_meet
                              case rel => exact ⟨_, (false), (by first | rfl | (simp; done) | (simp [*]; done)), H', ⟨by have := HJ12.out; first | omega | exact Nat.le_refl _⟩, ⟨by (with_reducible repeat (first | apply Kd.R_alloc | apply Kd.R_drewN | apply Kd.R_drew)); exact Kd.R_mono HO_7.out (fun _ hk => ⟨hk.1, hk.2.1⟩)⟩, ⟨by (with_reducible repeat (first | apply Kd.R_alloc | apply Kd.R_drewN | apply Kd.R_drew)); exact Kd.R_mono HO_8.out (fun _ hk => ⟨hk.1, hk.2.1⟩)⟩, ⟨by (with_reducible repeat (first | apply Kd.R_alloc | apply Kd.R_drewN | apply Kd.R_drew)); exact Kd.R_mono HO_10.out (fun _ hk => ⟨hk.1, hk.2.1⟩)⟩, ⟨by repeat (first | (with_reducible first | exact HB.out | apply below_alloc | apply pw_below_drewN | apply below_drew1) | exact HB.out)⟩⟩
                            · replace c46 := Bool.eq_false_iff.mpr c46
                              subst c46
                              have H1 : (calepinlaw21_MemberLists.j1 kj12 l0 y173 t176 t180 true) = some r := by rw [if_neg (show ¬ (false = true) by decide)] at H; exact H
                              clear H
                              have H := H1
                              clear H1
                              have H' := Aside0.mk H
                              clear H
                              go_wp2_with (first | ((with_reducible refine gate_callee (f := 14) rfl ?_); refine goesL_ (some 83) rfl rfl Try.func14 (by kernel_rfl) rfl #[.slice A0 l0.length c0] rfl (by (try simp only [List.map_toArray, List.map_cons, List.map_nil]); first | done | rfl | (simp only [List.length_drop, List.length_take]; rfl)) ?_; (with_reducible refine (calepinref21_Right.calls kj12 _ _ l0 true _ ?side1 ?side2 A35.out).mono ?_); (case side1 => repeat (first | exact (Kd.C_below HR0.out HB.out) | (with_reducible refine Kd.C_alloc ?_ _) | (with_reducible refine Kd.C_drewN ?_ _) | (with_reducible refine Kd.C_drew ?_))); (case side2 => exact HC0.out); rintro e w' ⟨rfl, ⟨nd, rfl⟩⟩; refine ⟨_, rfl, ?_⟩; obtain ⟨Ao51, co51, eo51⟩ := Kd.R_slice HO_8.out; subst eo51; obtain ⟨Ao52, co52, eo52⟩ := Kd.R_slice HO_12.out; subst eo52) | (go_at_call 12; (with_reducible refine (calepinlaw21_same.calls kj12 _ _ t176 _ _ t184 true _ ?side1 ?side2 ?side3 ?side4 A39.out).mono ?_); (case side1 => repeat (first | exact (Kd.R_reads' HO_8.out).2.2 | (with_reducible refine Kd.C_alloc ?_ _) | (with_reducible refine Kd.C_drewN ?_ _) | (with_reducible refine Kd.C_drew ?_))); (case side2 => exact (Kd.R_reads' HO_8.out).2.1); (case side3 => repeat (first | exact (Kd.R_reads' HO_12.out).2.2 | (with_reducible refine Kd.C_alloc ?_ _) | (with_reducible refine Kd.C_drewN ?_ _) | (with_reducible refine Kd.C_drew ?_))); (case side4 => exact (Kd.R_reads' HO_12.out).2.1); rintro e w' ⟨rfl, ⟨nd, rfl⟩⟩; obtain ⟨Ao53, co53, eo53⟩ := Kd.R_slice HO_10.out; subst eo53; obtain ⟨Ao54, co54, eo54⟩ := Kd.R_slice HO_14.out; subst eo54) | (go_at_call 12; (with_reducible refine (calepinlaw21_same.calls kj12 _ _ t180 _ _ t188 false _ ?side1 ?side2 ?side3 ?side4 A45.out).mono ?_); (case side1 => repeat (first | exact (Kd.R_reads' HO_10.out).2.2 | (with_reducible refine Kd.C_alloc ?_ _) | (with_reducible refine Kd.C_drewN ?_ _) | (with_reducible refine Kd.C_drew ?_))); (case side2 => exact (Kd.R_reads' HO_10.out).2.1); (case side3 => repeat (first | exact (Kd.R_reads' HO_14.out).2.2 | (with_reducible refine Kd.C_alloc ?_ _) | (with_reducible refine Kd.C_drewN ?_ _) | (with_reducible refine Kd.C_drew ?_))); (case side4 => exact (Kd.R_reads' HO_14.out).2.1); rintro e w' ⟨rfl, ⟨nd, rfl⟩⟩))
                              go_meet
                              case rel => exact ⟨_, (true), (by first | rfl | (simp; done) | (simp [*]; done)), H', ⟨by have := HJ12.out; first | omega | exact Nat.le_refl _⟩, ⟨by (with_reducible repeat (first | apply Kd.R_alloc | apply Kd.R_drewN | apply Kd.R_drew)); exact Kd.R_mono HO_7.out (fun _ hk => ⟨hk.1, hk.2.1⟩)⟩, ⟨by (with_reducible repeat (first | apply Kd.R_alloc | apply Kd.R_drewN | apply Kd.R_drew)); exact Kd.R_mono HO_8.out (fun _ hk => ⟨hk.1, hk.2.1⟩)⟩, ⟨by (with_reducible repeat (first | apply Kd.R_alloc | apply Kd.R_drewN | apply Kd.R_drew)); exact Kd.R_mono HO_10.out (fun _ hk => ⟨hk.1, hk.2.1⟩)⟩, ⟨by repeat (first | (with_reducible first | exact HB.out | apply below_alloc | apply pw_below_drewN | apply below_drew1) | exact HB.out)⟩⟩
                          · replace c44 := Bool.eq_false_iff.mpr c44
                            subst c44
                            have H1 : (calepinlaw21_MemberLists.j1 kj12 l0 y173 t176 t180 (decide ((t180.length : Int) > 0))) = some r := by rw [if_neg (show ¬ (false = true) by decide)] at H; exact H
                            clear H
                            have H := H1
                            clear H1
                            have H' := Aside0.mk H
                            clear H
                            go_wp2_with (first | ((with_reducible refine gate_callee (f := 14) rfl ?_); refine goesL_ (some 83) rfl rfl Try.func14 (by kernel_rfl) rfl #[.slice A0 l0.length c0] rfl (by (try simp only [List.map_toArray, List.map_cons, List.map_nil]); first | done | rfl | (simp only [List.length_drop, List.length_take]; rfl)) ?_; (with_reducible refine (calepinref21_Right.calls kj12 _ _ l0 true _ ?side1 ?side2 A35.out).mono ?_); (case side1 => repeat (first | exact (Kd.C_below HR0.out HB.out) | (with_reducible refine Kd.C_alloc ?_ _) | (with_reducible refine Kd.C_drewN ?_ _) | (with_reducible refine Kd.C_drew ?_))); (case side2 => exact HC0.out); rintro e w' ⟨rfl, ⟨nd, rfl⟩⟩; refine ⟨_, rfl, ?_⟩; obtain ⟨Ao55, co55, eo55⟩ := Kd.R_slice HO_8.out; subst eo55; obtain ⟨Ao56, co56, eo56⟩ := Kd.R_slice HO_12.out; subst eo56) | (go_at_call 12; (with_reducible refine (calepinlaw21_same.calls kj12 _ _ t176 _ _ t184 true _ ?side1 ?side2 ?side3 ?side4 A39.out).mono ?_); (case side1 => repeat (first | exact (Kd.R_reads' HO_8.out).2.2 | (with_reducible refine Kd.C_alloc ?_ _) | (with_reducible refine Kd.C_drewN ?_ _) | (with_reducible refine Kd.C_drew ?_))); (case side2 => exact (Kd.R_reads' HO_8.out).2.1); (case side3 => repeat (first | exact (Kd.R_reads' HO_12.out).2.2 | (with_reducible refine Kd.C_alloc ?_ _) | (with_reducible refine Kd.C_drewN ?_ _) | (with_reducible refine Kd.C_drew ?_))); (case side4 => exact (Kd.R_reads' HO_12.out).2.1); rintro e w' ⟨rfl, ⟨nd, rfl⟩⟩; obtain ⟨Ao57, co57, eo57⟩ := Kd.R_slice HO_10.out; subst eo57))
                            go_meet
                            case rel => exact ⟨_, (decide ((t180.length : Int) > 0)), (by first | rfl | (simp; done) | (simp [*]; done)), H', ⟨by have := HJ12.out; first | omega | exact Nat.le_refl _⟩, ⟨by (with_reducible repeat (first | apply Kd.R_alloc | apply Kd.R_drewN | apply Kd.R_drew)); exact Kd.R_mono HO_7.out (fun _ hk => ⟨hk.1, hk.2.1⟩)⟩, ⟨by (with_reducible repeat (first | apply Kd.R_alloc | apply Kd.R_drewN | apply Kd.R_drew)); exact Kd.R_mono HO_8.out (fun _ hk => ⟨hk.1, hk.2.1⟩)⟩, ⟨by (with_reducible repeat (first | apply Kd.R_alloc | apply Kd.R_drewN | apply Kd.R_drew)); exact Kd.R_mono HO_10.out (fun _ hk => ⟨hk.1, hk.2.1⟩)⟩, ⟨by repeat (first | (with_reducible first | exact HB.out | apply below_alloc | apply pw_below_drewN | apply below_drew1) | exact HB.out)⟩⟩
                      · replace c40 := Bool.eq_false_iff.mpr c40
                        subst c40
                        have H1 : (calepinlaw21_MemberLists.j1 kj12 l0 y173 t176 t180 true) = some r := by rw [if_neg (show ¬ (false = true) by decide)] at H; exact H
                        clear H
                        have H := H1
                        clear H1
                        have H' := Aside0.mk H
                        clear H
                        go_wp2_with (first | ((with_reducible refine gate_callee (f := 14) rfl ?_); refine goesL_ (some 83) rfl rfl Try.func14 (by kernel_rfl) rfl #[.slice A0 l0.length c0] rfl (by (try simp only [List.map_toArray, List.map_cons, List.map_nil]); first | done | rfl | (simp only [List.length_drop, List.length_take]; rfl)) ?_; (with_reducible refine (calepinref21_Right.calls kj12 _ _ l0 true _ ?side1 ?side2 A35.out).mono ?_); (case side1 => repeat (first | exact (Kd.C_below HR0.out HB.out) | (with_reducible refine Kd.C_alloc ?_ _) | (with_reducible refine Kd.C_drewN ?_ _) | (with_reducible refine Kd.C_drew ?_))); (case side2 => exact HC0.out); rintro e w' ⟨rfl, ⟨nd, rfl⟩⟩; refine ⟨_, rfl, ?_⟩; obtain ⟨Ao58, co58, eo58⟩ := Kd.R_slice HO_8.out; subst eo58; obtain ⟨Ao59, co59, eo59⟩ := Kd.R_slice HO_12.out; subst eo59) | (go_at_call 12; (with_reducible refine (calepinlaw21_same.calls kj12 _ _ t176 _ _ t184 false _ ?side1 ?side2 ?side3 ?side4 A39.out).mono ?_); (case side1 => repeat (first | exact (Kd.R_reads' HO_8.out).2.2 | (with_reducible refine Kd.C_alloc ?_ _) | (with_reducible refine Kd.C_drewN ?_ _) | (with_reducible refine Kd.C_drew ?_))); (case side2 => exact (Kd.R_reads' HO_8.out).2.1); (case side3 => repeat (first | exact (Kd.R_reads' HO_12.out).2.2 | (with_reducible refine Kd.C_alloc ?_ _) | (with_reducible refine Kd.C_drewN ?_ _) | (with_reducible refine Kd.C_drew ?_))); (case side4 => exact (Kd.R_reads' HO_12.out).2.1); rintro e w' ⟨rfl, ⟨nd, rfl⟩⟩))
                        go_meet
                        case rel => exact ⟨_, (true), (by first | rfl | (simp; done) | (simp [*]; done)), H', ⟨by have := HJ12.out; first | omega | exact Nat.le_refl _⟩, ⟨by (with_reducible repeat (first | apply Kd.R_alloc | apply Kd.R_drewN | apply Kd.R_drew)); exact Kd.R_mono HO_7.out (fun _ hk => ⟨hk.1, hk.2.1⟩)⟩, ⟨by (with_reducible repeat (first | apply Kd.R_alloc | apply Kd.R_drewN | apply Kd.R_drew)); exact Kd.R_mono HO_8.out (fun _ hk => ⟨hk.1, hk.2.1⟩)⟩, ⟨by (with_reducible repeat (first | apply Kd.R_alloc | apply Kd.R_drewN | apply Kd.R_drew)); exact Kd.R_mono HO_10.out (fun _ hk => ⟨hk.1, hk.2.1⟩)⟩, ⟨by repeat (first | (with_reducible first | exact HB.out | apply below_alloc | apply pw_below_drewN | apply below_drew1) | exact HB.out)⟩⟩
                    · replace c38 := Bool.eq_false_iff.mpr c38
                      subst c38
                      have H1 : (if (t176.length : Int) > 0 then (calepinlaw21_MemberLists.j1 kj12 l0 y173 t176 t180 true) else (if (t181 != t189) = true then (calepinlaw21_MemberLists.j1 kj12 l0 y173 t176 t180 true) else (if t189 = true then ((calepinlaw21_same.f kj12 t180 t188).bind fun t202 => (if t202 = true then (calepinlaw21_MemberLists.j1 kj12 l0 y173 t176 t180 false) else (calepinlaw21_MemberLists.j1 kj12 l0 y173 t176 t180 true))) else (calepinlaw21_MemberLists.j1 kj12 l0 y173 t176 t180 (decide ((t180.length : Int) > 0)))))) = some r := by rw [if_neg (show ¬ (false = true) by decide)] at H; exact H
                      clear H
                      have H := H1
                      clear H1
                      by_cases c60 : (t176.length : Int) > 0
                      · rw [if_pos c60] at H
                        have c60b0 : decide (0 < (t176.length : Int)) = true := decide_eq_true c60
                        have c60b1 : decide (0 < t176.length) = true := decide_eq_true (by omega)
                        clear c60
                        have H' := Aside0.mk H
                        clear H
                        go_wp2_with (first | ((with_reducible refine gate_callee (f := 14) rfl ?_); refine goesL_ (some 83) rfl rfl Try.func14 (by kernel_rfl) rfl #[.slice A0 l0.length c0] rfl (by (try simp only [List.map_toArray, List.map_cons, List.map_nil]); first | done | rfl | (simp only [List.length_drop, List.length_take]; rfl)) ?_; (with_reducible refine (calepinref21_Right.calls kj12 _ _ l0 true _ ?side1 ?side2 A35.out).mono ?_); (case side1 => repeat (first | exact (Kd.C_below HR0.out HB.out) | (with_reducible refine Kd.C_alloc ?_ _) | (with_reducible refine Kd.C_drewN ?_ _) | (with_reducible refine Kd.C_drew ?_))); (case side2 => exact HC0.out); rintro e w' ⟨rfl, ⟨nd, rfl⟩⟩; refine ⟨_, rfl, ?_⟩; obtain ⟨Ao61, co61, eo61⟩ := Kd.R_slice HO_8.out; subst eo61))
                        go_meet
                        case rel => exact ⟨_, (true), (by first | rfl | (simp; done) | (simp [*]; done)), H', ⟨by have := HJ12.out; first | omega | exact Nat.le_refl _⟩, ⟨by (with_reducible repeat (first | apply Kd.R_alloc | apply Kd.R_drewN | apply Kd.R_drew)); exact Kd.R_mono HO_7.out (fun _ hk => ⟨hk.1, hk.2.1⟩)⟩, ⟨by (with_reducible repeat (first | apply Kd.R_alloc | apply Kd.R_drewN | apply Kd.R_drew)); exact Kd.R_mono HO_8.out (fun _ hk => ⟨hk.1, hk.2.1⟩)⟩, ⟨by (with_reducible repeat (first | apply Kd.R_alloc | apply Kd.R_drewN | apply Kd.R_drew)); exact Kd.R_mono HO_10.out (fun _ hk => ⟨hk.1, hk.2.1⟩)⟩, ⟨by repeat (first | (with_reducible first | exact HB.out | apply below_alloc | apply pw_below_drewN | apply below_drew1) | exact HB.out)⟩⟩
                      · rw [if_neg c60] at H
                        have c60b0 : decide (0 < (t176.length : Int)) = false := decide_eq_false c60
                        have c60b1 : decide (0 < t176.length) = false := decide_eq_false (by omega)
                        clear c60
                        by_cases c62 : (t181 != t189) = true
                        · rw [if_pos c62] at H
                          have c62b0 : (t181 != t189) = true := c62
                          (try (have c62b1 : decide (t181 = t189) = false := by simpa using c62))
                          (try (have c62b2 : (t181 == t189) = false := by simpa using c62))
                          (try (have c62b3 : ¬ (t181 = t189) := by simpa using c62))
                          clear c62
                          have H' := Aside0.mk H
                          clear H
                          go_wp2_with (first | ((with_reducible refine gate_callee (f := 14) rfl ?_); refine goesL_ (some 83) rfl rfl Try.func14 (by kernel_rfl) rfl #[.slice A0 l0.length c0] rfl (by (try simp only [List.map_toArray, List.map_cons, List.map_nil]); first | done | rfl | (simp only [List.length_drop, List.length_take]; rfl)) ?_; (with_reducible refine (calepinref21_Right.calls kj12 _ _ l0 true _ ?side1 ?side2 A35.out).mono ?_); (case side1 => repeat (first | exact (Kd.C_below HR0.out HB.out) | (with_reducible refine Kd.C_alloc ?_ _) | (with_reducible refine Kd.C_drewN ?_ _) | (with_reducible refine Kd.C_drew ?_))); (case side2 => exact HC0.out); rintro e w' ⟨rfl, ⟨nd, rfl⟩⟩; refine ⟨_, rfl, ?_⟩; obtain ⟨Ao63, co63, eo63⟩ := Kd.R_slice HO_8.out; subst eo63))
                          go_meet
                          case rel => exact ⟨_, (true), (by first | rfl | (simp; done) | (simp [*]; done)), H', ⟨by have := HJ12.out; first | omega | exact Nat.le_refl _⟩, ⟨by (with_reducible repeat (first | apply Kd.R_alloc | apply Kd.R_drewN | apply Kd.R_drew)); exact Kd.R_mono HO_7.out (fun _ hk => ⟨hk.1, hk.2.1⟩)⟩, ⟨by (with_reducible repeat (first | apply Kd.R_alloc | apply Kd.R_drewN | apply Kd.R_drew)); exact Kd.R_mono HO_8.out (fun _ hk => ⟨hk.1, hk.2.1⟩)⟩, ⟨by (with_reducible repeat (first | apply Kd.R_alloc | apply Kd.R_drewN | apply Kd.R_drew)); exact Kd.R_mono HO_10.out (fun _ hk => ⟨hk.1, hk.2.1⟩)⟩, ⟨by repeat (first | (with_reducible first | exact HB.out | apply below_alloc | apply pw_below_drewN | apply below_drew1) | exact HB.out)⟩⟩
                        · rw [if_neg c62] at H
                          have c62b0 : (t181 != t189) = false := by simpa using c62
                          (try (have c62b1 : decide (t181 = t189) = true := by simpa using c62))
                          (try (have c62b2 : (t181 == t189) = true := by simpa using c62))
                          clear c62
                          by_cases c64 : t189 = true
                          · subst c64
                            have H1 : ((calepinlaw21_same.f kj12 t180 t188).bind fun t202 => (if t202 = true then (calepinlaw21_MemberLists.j1 kj12 l0 y173 t176 t180 false) else (calepinlaw21_MemberLists.j1 kj12 l0 y173 t176 t180 true))) = some r := by rw [if_pos rfl] at H; exact H
                            clear H
                            have H := H1
                            clear H1
                            replace H := Option.bind_eq_some_iff.mp H
                            obtain ⟨t202, A650, H⟩ := H
                            replace H : (if t202 = true then (calepinlaw21_MemberLists.j1 kj12 l0 y173 t176 t180 false) else (calepinlaw21_MemberLists.j1 kj12 l0 y173 t176 t180 true)) = some r := H
                            have A65 := Aside0.mk A650
                            clear A650
                            by_cases c66 : t202 = true
                            · subst c66
                              have H1 : (calepinlaw21_MemberLists.j1 kj12 l0 y173 t176 t180 false) = some r := by rw [if_pos rfl] at H; exact H
                              clear H
                              have H := H1
                              clear H1
                              have H' := Aside0.mk H
                              clear H
                              go_wp2_with (first | ((with_reducible refine gate_callee (f := 14) rfl ?_); refine goesL_ (some 83) rfl rfl Try.func14 (by kernel_rfl) rfl #[.slice A0 l0.length c0] rfl (by (try simp only [List.map_toArray, List.map_cons, List.map_nil]); first | done | rfl | (simp only [List.length_drop, List.length_take]; rfl)) ?_; (with_reducible refine (calepinref21_Right.calls kj12 _ _ l0 true _ ?side1 ?side2 A35.out).mono ?_); (case side1 => repeat (first | exact (Kd.C_below HR0.out HB.out) | (with_reducible refine Kd.C_alloc ?_ _) | (with_reducible refine Kd.C_drewN ?_ _) | (with_reducible refine Kd.C_drew ?_))); (case side2 => exact HC0.out); rintro e w' ⟨rfl, ⟨nd, rfl⟩⟩; refine ⟨_, rfl, ?_⟩; obtain ⟨Ao67, co67, eo67⟩ := Kd.R_slice HO_8.out; subst eo67; obtain ⟨Ao68, co68, eo68⟩ := Kd.R_slice HO_10.out; subst eo68; obtain ⟨Ao69, co69, eo69⟩ := Kd.R_slice HO_14.out; subst eo69) | (go_at_call 12; (with_reducible refine (calepinlaw21_same.calls kj12 _ _ t180 _ _ t188 true _ ?side1 ?side2 ?side3 ?side4 A65.out).mono ?_); (case side1 => repeat (first | exact (Kd.R_reads' HO_10.out).2.2 | (with_reducible refine Kd.C_alloc ?_ _) | (with_reducible refine Kd.C_drewN ?_ _) | (with_reducible refine Kd.C_drew ?_))); (case side2 => exact (Kd.R_reads' HO_10.out).2.1); (case side3 => repeat (first | exact (Kd.R_reads' HO_14.out).2.2 | (with_reducible refine Kd.C_alloc ?_ _) | (with_reducible refine Kd.C_drewN ?_ _) | (with_reducible refine Kd.C_drew ?_))); (case side4 => exact (Kd.R_reads' HO_14.out).2.1); rintro e w' ⟨rfl, ⟨nd, rfl⟩⟩))
                              go_meet
                              case rel => exact ⟨_, (false), (by first | rfl | (simp; done) | (simp [*]; done)), H', ⟨by have := HJ12.out; first | omega | exact Nat.le_refl _⟩, ⟨by (with_reducible repeat (first | apply Kd.R_alloc | apply Kd.R_drewN | apply Kd.R_drew)); exact Kd.R_mono HO_7.out (fun _ hk => ⟨hk.1, hk.2.1⟩)⟩, ⟨by (with_reducible repeat (first | apply Kd.R_alloc | apply Kd.R_drewN | apply Kd.R_drew)); exact Kd.R_mono HO_8.out (fun _ hk => ⟨hk.1, hk.2.1⟩)⟩, ⟨by (with_reducible repeat (first | apply Kd.R_alloc | apply Kd.R_drewN | apply Kd.R_drew)); exact Kd.R_mono HO_10.out (fun _ hk => ⟨hk.1, hk.2.1⟩)⟩, ⟨by repeat (first | (with_reducible first | exact HB.out | apply below_alloc | apply pw_below_drewN | apply below_drew1) | exact HB.out)⟩⟩
                            · replace c66 := Bool.eq_false_iff.mpr c66
                              subst c66
                              have H1 : (calepinlaw21_MemberLists.j1 kj12 l0 y173 t176 t180 true) = some r := by rw [if_neg (show ¬ (false = true) by decide)] at H; exact H
                              clear H
                              have H := H1
                              clear H1
                              have H' := Aside0.mk H
                              clear H
                              go_wp2_with (first | ((with_reducible refine gate_callee (f := 14) rfl ?_); refine goesL_ (some 83) rfl rfl Try.func14 (by kernel_rfl) rfl #[.slice A0 l0.length c0] rfl (by (try simp only [List.map_toArray, List.map_cons, List.map_nil]); first | done | rfl | (simp only [List.length_drop, List.length_take]; rfl)) ?_; (with_reducible refine (calepinref21_Right.calls kj12 _ _ l0 true _ ?side1 ?side2 A35.out).mono ?_); (case side1 => repeat (first | exact (Kd.C_below HR0.out HB.out) | (with_reducible refine Kd.C_alloc ?_ _) | (with_reducible refine Kd.C_drewN ?_ _) | (with_reducible refine Kd.C_drew ?_))); (case side2 => exact HC0.out); rintro e w' ⟨rfl, ⟨nd, rfl⟩⟩; refine ⟨_, rfl, ?_⟩; obtain ⟨Ao70, co70, eo70⟩ := Kd.R_slice HO_8.out; subst eo70; obtain ⟨Ao71, co71, eo71⟩ := Kd.R_slice HO_10.out; subst eo71; obtain ⟨Ao72, co72, eo72⟩ := Kd.R_slice HO_14.out; subst eo72) | (go_at_call 12; (with_reducible refine (calepinlaw21_same.calls kj12 _ _ t180 _ _ t188 false _ ?side1 ?side2 ?side3 ?side4 A65.out).mono ?_); (case side1 => repeat (first | exact (Kd.R_reads' HO_10.out).2.2 | (with_reducible refine Kd.C_alloc ?_ _) | (with_reducible refine Kd.C_drewN ?_ _) | (with_reducible refine Kd.C_drew ?_))); (case side2 => exact (Kd.R_reads' HO_10.out).2.1); (case side3 => repeat (first | exact (Kd.R_reads' HO_14.out).2.2 | (with_reducible refine Kd.C_alloc ?_ _) | (with_reducible refine Kd.C_drewN ?_ _) | (with_reducible refine Kd.C_drew ?_))); (case side4 => exact (Kd.R_reads' HO_14.out).2.1); rintro e w' ⟨rfl, ⟨nd, rfl⟩⟩))
                              go_meet
                              case rel => exact ⟨_, (true), (by first | rfl | (simp; done) | (simp [*]; done)), H', ⟨by have := HJ12.out; first | omega | exact Nat.le_refl _⟩, ⟨by (with_reducible repeat (first | apply Kd.R_alloc | apply Kd.R_drewN | apply Kd.R_drew)); exact Kd.R_mono HO_7.out (fun _ hk => ⟨hk.1, hk.2.1⟩)⟩, ⟨by (with_reducible repeat (first | apply Kd.R_alloc | apply Kd.R_drewN | apply Kd.R_drew)); exact Kd.R_mono HO_8.out (fun _ hk => ⟨hk.1, hk.2.1⟩)⟩, ⟨by (with_reducible repeat (first | apply Kd.R_alloc | apply Kd.R_drewN | apply Kd.R_drew)); exact Kd.R_mono HO_10.out (fun _ hk => ⟨hk.1, hk.2.1⟩)⟩, ⟨by repeat (first | (with_reducible first | exact HB.out | apply below_alloc | apply pw_below_drewN | apply below_drew1) | exact HB.out)⟩⟩
                          · replace c64 := Bool.eq_false_iff.mpr c64
                            subst c64
                            have H1 : (calepinlaw21_MemberLists.j1 kj12 l0 y173 t176 t180 (decide ((t180.length : Int) > 0))) = some r := by rw [if_neg (show ¬ (false = true) by decide)] at H; exact H
                            clear H
                            have H := H1
                            clear H1
                            have H' := Aside0.mk H
                            clear H
                            go_wp2_with (first | ((with_reducible refine gate_callee (f := 14) rfl ?_); refine goesL_ (some 83) rfl rfl Try.func14 (by kernel_rfl) rfl #[.slice A0 l0.length c0] rfl (by (try simp only [List.map_toArray, List.map_cons, List.map_nil]); first | done | rfl | (simp only [List.length_drop, List.length_take]; rfl)) ?_; (with_reducible refine (calepinref21_Right.calls kj12 _ _ l0 true _ ?side1 ?side2 A35.out).mono ?_); (case side1 => repeat (first | exact (Kd.C_below HR0.out HB.out) | (with_reducible refine Kd.C_alloc ?_ _) | (with_reducible refine Kd.C_drewN ?_ _) | (with_reducible refine Kd.C_drew ?_))); (case side2 => exact HC0.out); rintro e w' ⟨rfl, ⟨nd, rfl⟩⟩; refine ⟨_, rfl, ?_⟩; obtain ⟨Ao73, co73, eo73⟩ := Kd.R_slice HO_8.out; subst eo73; obtain ⟨Ao74, co74, eo74⟩ := Kd.R_slice HO_10.out; subst eo74))
                            go_meet
                            case rel => exact ⟨_, (decide ((t180.length : Int) > 0)), (by first | rfl | (simp; done) | (simp [*]; done)), H', ⟨by have := HJ12.out; first | omega | exact Nat.le_refl _⟩, ⟨by (with_reducible repeat (first | apply Kd.R_alloc | apply Kd.R_drewN | apply Kd.R_drew)); exact Kd.R_mono HO_7.out (fun _ hk => ⟨hk.1, hk.2.1⟩)⟩, ⟨by (with_reducible repeat (first | apply Kd.R_alloc | apply Kd.R_drewN | apply Kd.R_drew)); exact Kd.R_mono HO_8.out (fun _ hk => ⟨hk.1, hk.2.1⟩)⟩, ⟨by (with_reducible repeat (first | apply Kd.R_alloc | apply Kd.R_drewN | apply Kd.R_drew)); exact Kd.R_mono HO_10.out (fun _ hk => ⟨hk.1, hk.2.1⟩)⟩, ⟨by repeat (first | (with_reducible first | exact HB.out | apply below_alloc | apply pw_below_drewN | apply below_drew1) | exact HB.out)⟩⟩
                · replace c36 := Bool.eq_false_iff.mpr c36
                  subst c36
                  have H1 : (if (t181 != t189) = true then (calepinlaw21_MemberLists.j1 kj12 l0 y173 t176 t180 true) else (if t189 = true then ((calepinlaw21_same.f kj12 t180 t188).bind fun t203 => (if t203 = true then (calepinlaw21_MemberLists.j1 kj12 l0 y173 t176 t180 false) else (calepinlaw21_MemberLists.j1 kj12 l0 y173 t176 t180 true))) else (calepinlaw21_MemberLists.j1 kj12 l0 y173 t176 t180 (decide ((t180.length : Int) > 0))))) = some r := by rw [if_neg (show ¬ (false = true) by decide)] at H; exact H
                  clear H
                  have H := H1
                  clear H1
                  by_cases c75 : (t181 != t189) = true
                  · rw [if_pos c75] at H
                    have c75b0 : (t181 != t189) = true := c75
                    (try (have c75b1 : decide (t181 = t189) = false := by simpa using c75))
                    (try (have c75b2 : (t181 == t189) = false := by simpa using c75))
                    (try (have c75b3 : ¬ (t181 = t189) := by simpa using c75))
                    clear c75
                    have H' := Aside0.mk H
                    clear H
                    go_wp2_with (first | ((with_reducible refine gate_callee (f := 14) rfl ?_); refine goesL_ (some 83) rfl rfl Try.func14 (by kernel_rfl) rfl #[.slice A0 l0.length c0] rfl (by (try simp only [List.map_toArray, List.map_cons, List.map_nil]); first | done | rfl | (simp only [List.length_drop, List.length_take]; rfl)) ?_; (with_reducible refine (calepinref21_Right.calls kj12 _ _ l0 false _ ?side1 ?side2 A35.out).mono ?_); (case side1 => repeat (first | exact (Kd.C_below HR0.out HB.out) | (with_reducible refine Kd.C_alloc ?_ _) | (with_reducible refine Kd.C_drewN ?_ _) | (with_reducible refine Kd.C_drew ?_))); (case side2 => exact HC0.out); rintro e w' ⟨rfl, ⟨nd, rfl⟩⟩; refine ⟨_, rfl, ?_⟩))
                    go_meet
                    case rel => exact ⟨_, (true), (by first | rfl | (simp; done) | (simp [*]; done)), H', ⟨by have := HJ12.out; first | omega | exact Nat.le_refl _⟩, ⟨by (with_reducible repeat (first | apply Kd.R_alloc | apply Kd.R_drewN | apply Kd.R_drew)); exact Kd.R_mono HO_7.out (fun _ hk => ⟨hk.1, hk.2.1⟩)⟩, ⟨by (with_reducible repeat (first | apply Kd.R_alloc | apply Kd.R_drewN | apply Kd.R_drew)); exact Kd.R_mono HO_8.out (fun _ hk => ⟨hk.1, hk.2.1⟩)⟩, ⟨by (with_reducible repeat (first | apply Kd.R_alloc | apply Kd.R_drewN | apply Kd.R_drew)); exact Kd.R_mono HO_10.out (fun _ hk => ⟨hk.1, hk.2.1⟩)⟩, ⟨by repeat (first | (with_reducible first | exact HB.out | apply below_alloc | apply pw_below_drewN | apply below_drew1) | exact HB.out)⟩⟩
                  · rw [if_neg c75] at H
                    have c75b0 : (t181 != t189) = false := by simpa using c75
                    (try (have c75b1 : decide (t181 = t189) = true := by simpa using c75))
                    (try (have c75b2 : (t181 == t189) = true := by simpa using c75))
                    clear c75
                    by_cases c76 : t189 = true
                    · subst c76
                      have H1 : ((calepinlaw21_same.f kj12 t180 t188).bind fun t203 => (if t203 = true then (calepinlaw21_MemberLists.j1 kj12 l0 y173 t176 t180 false) else (calepinlaw21_MemberLists.j1 kj12 l0 y173 t176 t180 true))) = some r := by rw [if_pos rfl] at H; exact H
                      clear H
                      have H := H1
                      clear H1
                      replace H := Option.bind_eq_some_iff.mp H
                      obtain ⟨t203, A770, H⟩ := H
                      replace H : (if t203 = true then (calepinlaw21_MemberLists.j1 kj12 l0 y173 t176 t180 false) else (calepinlaw21_MemberLists.j1 kj12 l0 y173 t176 t180 true)) = some r := H
                      have A77 := Aside0.mk A770
                      clear A770
                      by_cases c78 : t203 = true
                      · subst c78
                        have H1 : (calepinlaw21_MemberLists.j1 kj12 l0 y173 t176 t180 false) = some r := by rw [if_pos rfl] at H; exact H
                        clear H
                        have H := H1
                        clear H1
                        have H' := Aside0.mk H
                        clear H
                        go_wp2_with (first | ((with_reducible refine gate_callee (f := 14) rfl ?_); refine goesL_ (some 83) rfl rfl Try.func14 (by kernel_rfl) rfl #[.slice A0 l0.length c0] rfl (by (try simp only [List.map_toArray, List.map_cons, List.map_nil]); first | done | rfl | (simp only [List.length_drop, List.length_take]; rfl)) ?_; (with_reducible refine (calepinref21_Right.calls kj12 _ _ l0 false _ ?side1 ?side2 A35.out).mono ?_); (case side1 => repeat (first | exact (Kd.C_below HR0.out HB.out) | (with_reducible refine Kd.C_alloc ?_ _) | (with_reducible refine Kd.C_drewN ?_ _) | (with_reducible refine Kd.C_drew ?_))); (case side2 => exact HC0.out); rintro e w' ⟨rfl, ⟨nd, rfl⟩⟩; refine ⟨_, rfl, ?_⟩; obtain ⟨Ao79, co79, eo79⟩ := Kd.R_slice HO_10.out; subst eo79; obtain ⟨Ao80, co80, eo80⟩ := Kd.R_slice HO_14.out; subst eo80) | (go_at_call 12; (with_reducible refine (calepinlaw21_same.calls kj12 _ _ t180 _ _ t188 true _ ?side1 ?side2 ?side3 ?side4 A77.out).mono ?_); (case side1 => repeat (first | exact (Kd.R_reads' HO_10.out).2.2 | (with_reducible refine Kd.C_alloc ?_ _) | (with_reducible refine Kd.C_drewN ?_ _) | (with_reducible refine Kd.C_drew ?_))); (case side2 => exact (Kd.R_reads' HO_10.out).2.1); (case side3 => repeat (first | exact (Kd.R_reads' HO_14.out).2.2 | (with_reducible refine Kd.C_alloc ?_ _) | (with_reducible refine Kd.C_drewN ?_ _) | (with_reducible refine Kd.C_drew ?_))); (case side4 => exact (Kd.R_reads' HO_14.out).2.1); rintro e w' ⟨rfl, ⟨nd, rfl⟩⟩))
                        go_meet
                        case rel => exact ⟨_, (false), (by first | rfl | (simp; done) | (simp [*]; done)), H', ⟨by have := HJ12.out; first | omega | exact Nat.le_refl _⟩, ⟨by (with_reducible repeat (first | apply Kd.R_alloc | apply Kd.R_drewN | apply Kd.R_drew)); exact Kd.R_mono HO_7.out (fun _ hk => ⟨hk.1, hk.2.1⟩)⟩, ⟨by (with_reducible repeat (first | apply Kd.R_alloc | apply Kd.R_drewN | apply Kd.R_drew)); exact Kd.R_mono HO_8.out (fun _ hk => ⟨hk.1, hk.2.1⟩)⟩, ⟨by (with_reducible repeat (first | apply Kd.R_alloc | apply Kd.R_drewN | apply Kd.R_drew)); exact Kd.R_mono HO_10.out (fun _ hk => ⟨hk.1, hk.2.1⟩)⟩, ⟨by repeat (first | (with_reducible first | exact HB.out | apply below_alloc | apply pw_below_drewN | apply below_drew1) | exact HB.out)⟩⟩
                      · replace c78 := Bool.eq_false_iff.mpr c78
                        subst c78
                        have H1 : (calepinlaw21_MemberLists.j1 kj12 l0 y173 t176 t180 true) = some r := by rw [if_neg (show ¬ (false = true) by decide)] at H; exact H
                        clear H
                        have H := H1
                        clear H1
                        have H' := Aside0.mk H
                        clear H
                        go_wp2_with (first | ((with_reducible refine gate_callee (f := 14) rfl ?_); refine goesL_ (some 83) rfl rfl Try.func14 (by kernel_rfl) rfl #[.slice A0 l0.length c0] rfl (by (try simp only [List.map_toArray, List.map_cons, List.map_nil]); first | done | rfl | (simp only [List.length_drop, List.length_take]; rfl)) ?_; (with_reducible refine (calepinref21_Right.calls kj12 _ _ l0 false _ ?side1 ?side2 A35.out).mono ?_); (case side1 => repeat (first | exact (Kd.C_below HR0.out HB.out) | (with_reducible refine Kd.C_alloc ?_ _) | (with_reducible refine Kd.C_drewN ?_ _) | (with_reducible refine Kd.C_drew ?_))); (case side2 => exact HC0.out); rintro e w' ⟨rfl, ⟨nd, rfl⟩⟩; refine ⟨_, rfl, ?_⟩; obtain ⟨Ao81, co81, eo81⟩ := Kd.R_slice HO_10.out; subst eo81; obtain ⟨Ao82, co82, eo82⟩ := Kd.R_slice HO_14.out; subst eo82) | (go_at_call 12; (with_reducible refine (calepinlaw21_same.calls kj12 _ _ t180 _ _ t188 false _ ?side1 ?side2 ?side3 ?side4 A77.out).mono ?_); (case side1 => repeat (first | exact (Kd.R_reads' HO_10.out).2.2 | (with_reducible refine Kd.C_alloc ?_ _) | (with_reducible refine Kd.C_drewN ?_ _) | (with_reducible refine Kd.C_drew ?_))); (case side2 => exact (Kd.R_reads' HO_10.out).2.1); (case side3 => repeat (first | exact (Kd.R_reads' HO_14.out).2.2 | (with_reducible refine Kd.C_alloc ?_ _) | (with_reducible refine Kd.C_drewN ?_ _) | (with_reducible refine Kd.C_drew ?_))); (case side4 => exact (Kd.R_reads' HO_14.out).2.1); rintro e w' ⟨rfl, ⟨nd, rfl⟩⟩))
                        go_meet
                        case rel => exact ⟨_, (true), (by first | rfl | (simp; done) | (simp [*]; done)), H', ⟨by have := HJ12.out; first | omega | exact Nat.le_refl _⟩, ⟨by (with_reducible repeat (first | apply Kd.R_alloc | apply Kd.R_drewN | apply Kd.R_drew)); exact Kd.R_mono HO_7.out (fun _ hk => ⟨hk.1, hk.2.1⟩)⟩, ⟨by (with_reducible repeat (first | apply Kd.R_alloc | apply Kd.R_drewN | apply Kd.R_drew)); exact Kd.R_mono HO_8.out (fun _ hk => ⟨hk.1, hk.2.1⟩)⟩, ⟨by (with_reducible repeat (first | apply Kd.R_alloc | apply Kd.R_drewN | apply Kd.R_drew)); exact Kd.R_mono HO_10.out (fun _ hk => ⟨hk.1, hk.2.1⟩)⟩, ⟨by repeat (first | (with_reducible first | exact HB.out | apply below_alloc | apply pw_below_drewN | apply below_drew1) | exact HB.out)⟩⟩
                    · replace c76 := Bool.eq_false_iff.mpr c76
                      subst c76
                      have H1 : (calepinlaw21_MemberLists.j1 kj12 l0 y173 t176 t180 (decide ((t180.length : Int) > 0))) = some r := by rw [if_neg (show ¬ (false = true) by decide)] at H; exact H
                      clear H
                      have H := H1
                      clear H1
                      have H' := Aside0.mk H
                      clear H
                      go_wp2_with (first | ((with_reducible refine gate_callee (f := 14) rfl ?_); refine goesL_ (some 83) rfl rfl Try.func14 (by kernel_rfl) rfl #[.slice A0 l0.length c0] rfl (by (try simp only [List.map_toArray, List.map_cons, List.map_nil]); first | done | rfl | (simp only [List.length_drop, List.length_take]; rfl)) ?_; (with_reducible refine (calepinref21_Right.calls kj12 _ _ l0 false _ ?side1 ?side2 A35.out).mono ?_); (case side1 => repeat (first | exact (Kd.C_below HR0.out HB.out) | (with_reducible refine Kd.C_alloc ?_ _) | (with_reducible refine Kd.C_drewN ?_ _) | (with_reducible refine Kd.C_drew ?_))); (case side2 => exact HC0.out); rintro e w' ⟨rfl, ⟨nd, rfl⟩⟩; refine ⟨_, rfl, ?_⟩; obtain ⟨Ao83, co83, eo83⟩ := Kd.R_slice HO_10.out; subst eo83))
                      go_meet
                      case rel => exact ⟨_, (decide ((t180.length : Int) > 0)), (by first | rfl | (simp; done) | (simp [*]; done)), H', ⟨by have := HJ12.out; first | omega | exact Nat.le_refl _⟩, ⟨by (with_reducible repeat (first | apply Kd.R_alloc | apply Kd.R_drewN | apply Kd.R_drew)); exact Kd.R_mono HO_7.out (fun _ hk => ⟨hk.1, hk.2.1⟩)⟩, ⟨by (with_reducible repeat (first | apply Kd.R_alloc | apply Kd.R_drewN | apply Kd.R_drew)); exact Kd.R_mono HO_8.out (fun _ hk => ⟨hk.1, hk.2.1⟩)⟩, ⟨by (with_reducible repeat (first | apply Kd.R_alloc | apply Kd.R_drewN | apply Kd.R_drew)); exact Kd.R_mono HO_10.out (fun _ hk => ⟨hk.1, hk.2.1⟩)⟩, ⟨by repeat (first | (with_reducible first | exact HB.out | apply below_alloc | apply pw_below_drewN | apply below_drew1) | exact HB.out)⟩⟩
              case rest =>
                clear HC34
                try clear c1
                try clear c2
                try clear p2
                try clear c3
                try clear c4
                try clear c5
                try clear c6
                try clear c6b0
                try clear p6
                try clear c7
                try clear c8
                try clear c9
                try clear c10
                try clear c11
                try clear c12
                try clear c14
                try clear c24
                try clear c27
                try clear c27b0
                try clear c27b1
                try clear c27b2
                try clear c30
                try clear c30b0
                try clear c30b1
                try clear c30b2
                try clear c33
                try clear c36
                try clear c37
                try clear c37b0
                try clear c37b1
                try clear c37b2
                try clear c38
                try clear c40
                try clear c41
                try clear c41b0
                try clear c41b1
                try clear c41b2
                try clear c44
                try clear c46
                try clear c60
                try clear c60b0
                try clear c60b1
                try clear c62
                try clear c62b0
                try clear c62b1
                try clear c62b2
                try clear c64
                try clear p64
                try clear c66
                try clear c75
                try clear c75b0
                try clear c75b1
                try clear c75b2
                try clear c76
                try clear c78
                try clear p2
                try clear p6
                obtain ⟨kq, x129_33, rfl, HA, HJ33, HO_7, HO_8, HO_10, HB⟩ := hcut
                cases kq with
                | zero => exact absurd HA.out (by simp [calepinlaw21_MemberLists.j1])
                | succ kj33 =>
                  have H := HA.out
                  clear HA
                  simp only [calepinlaw21_MemberLists.j1] at H
                  by_cases c84 : x129_33 = true
                  · subst c84
                    have H1 : (some false) = some r := by rw [if_pos rfl] at H; exact H
                    clear H
                    have H := H1
                    clear H1
                    obtain rfl := Option.some.inj H
                    go_wp2
                    go_ret
                    exact ⟨by first | rfl | (simp [errW_none, errW_some] <;> rfl) | (simp [*, errW_none, errW_some] <;> rfl), by repeat (first | (with_reducible first | exact HB.out | apply below_alloc | apply pw_below_drewN | apply below_drew1) | exact HB.out)⟩
                  · replace c84 := Bool.eq_false_iff.mpr c84
                    subst c84
                    have H1 : (calepinlaw21_MemberLists.l0 kj33 l0 y173 t176 t180 (t176.length : Int) 0) = some r := by rw [if_neg (show ¬ (false = true) by decide)] at H; exact H
                    clear H
                    have H := H1
                    clear H1
                    have H' := Aside0.mk H
                    clear H
                    obtain ⟨Ao85, co85, eo85⟩ := Kd.R_slice HO_8.out
                    subst eo85
                    go_wp2
                    go_loopg [132] kj33 (fun kq v132 w' => ∃ (x8_3 : List Int) (x132_3 : Int), v132 = .int .i64 x132_3 ∧ Aside0 (calepinlaw21_MemberLists.l0 kq l0 y173 x8_3 t180 (t176.length : Int) x132_3 = some r) ∧ Aside0 (kq ≤ kj33) ∧ Aside0 (Kd.R (Kd.int .i64) 3 w' w.heap.size (fun k_ => some k_ ≠ ((.slice Ao85 t176.length co85) : Value).ownBlock ∧ some k_ ≠ (v182 : Value).ownBlock) (.slice Ao18 y173.length co18) y173) ∧ Aside0 (Kd.R (Kd.int .i64) 3 w' w.heap.size (fun k_ => some k_ ≠ ((.slice Ao18 y173.length co18) : Value).ownBlock ∧ some k_ ≠ (v182 : Value).ownBlock) (.slice Ao85 t176.length co85) x8_3) ∧ Aside0 (Kd.R (Kd.int .i64) 3 w' w.heap.size (fun k_ => some k_ ≠ ((.slice Ao18 y173.length co18) : Value).ownBlock ∧ some k_ ≠ ((.slice Ao85 t176.length co85) : Value).ownBlock) v182 t180) ∧ Aside0 (Below w.heap.size w w'))
                    case atStart => exact ⟨(t176), (0), (by first | rfl | (simp; done) | (simp [*]; done)), H', ⟨Nat.le_refl _⟩, ⟨by (with_reducible repeat (first | apply Kd.R_alloc | apply Kd.R_drewN | apply Kd.R_drew)); exact HO_7.out⟩, ⟨by (with_reducible repeat (first | apply Kd.R_alloc | apply Kd.R_drewN | apply Kd.R_drew)); exact HO_8.out⟩, ⟨by (with_reducible repeat (first | apply Kd.R_alloc | apply Kd.R_drewN | apply Kd.R_drew)); exact HO_10.out⟩, ⟨by repeat (first | (with_reducible first | exact HB.out | apply below_alloc | apply pw_below_drewN | apply below_drew1) | exact HB.out)⟩⟩
                    case round =>
                      clear H'
                      try clear c1
                      try clear c2
                      try clear p2
                      try clear c3
                      try clear c4
                      try clear c5
                      try clear c6
                      try clear c6b0
                      try clear p6
                      try clear c7
                      try clear c8
                      try clear c9
                      try clear c10
                      try clear c11
                      try clear c12
                      try clear c14
                      try clear c24
                      try clear c27
                      try clear c27b0
                      try clear c27b1
                      try clear c27b2
                      try clear c30
                      try clear c30b0
                      try clear c30b1
                      try clear c30b2
                      try clear c33
                      try clear c36
                      try clear c37
                      try clear c37b0
                      try clear c37b1
                      try clear c37b2
                      try clear c38
                      try clear c40
                      try clear c41
                      try clear c41b0
                      try clear c41b1
                      try clear c41b2
                      try clear c44
                      try clear c46
                      try clear c60
                      try clear c60b0
                      try clear c60b1
                      try clear c62
                      try clear c62b0
                      try clear c62b1
                      try clear c62b2
                      try clear c64
                      try clear p64
                      try clear c66
                      try clear c75
                      try clear c75b0
                      try clear c75b1
                      try clear c75b2
                      try clear c76
                      try clear c78
                      try clear c84
                      try clear p2
                      try clear p6
                      try clear p64
                      obtain ⟨x8_3, x132_3, rfl, HA, HK3, HO_7, HO_8, HO_10, HB⟩ := hrel
                      have hl8_3 := (Kd.R_reads' HO_8.out).1
                      rw [hl8_3] at HO_8
                      (try simp only [hl8_3])
                      (try simp only [hl8_3] at HO_7)
                      (try simp only [hl8_3] at HO_10)
                      cases gk with
                      | zero => exact absurd HA.out (by simp [calepinlaw21_MemberLists.l0])
                      | succ k3 =>
                        have H := HA.out
                        clear HA
                        simp only [calepinlaw21_MemberLists.l0] at H
                        by_cases c86 : x132_3 < (t176.length : Int)
                        · rw [if_pos c86] at H
                          have c86b0 : decide (x132_3 < (t176.length : Int)) = true := decide_eq_true c86
                          clear c86
                          by_cases c87 : 0 ≤ x132_3
                          · rw [if_pos c87] at H
                            have c87b0 : decide (0 ≤ x132_3) = true := decide_eq_true c87
                            clear c87
                            by_cases c88 : x132_3 < (x8_3.length : Int)
                            · rw [if_pos c88] at H
                              have c88b0 : decide (x132_3 < (x8_3.length : Int)) = true := decide_eq_true c88
                              clear c88
                              obtain ⟨y204, hy204⟩ : ∃ y_ : List Int, y_ = (x8_3.set (x132_3 : Int).toNat 99) := ⟨_, rfl⟩
                              replace H : (calepinlaw21_MemberLists.l0 k3 l0 y173 y204 t180 (t176.length : Int) (wrap64 (x132_3 + 1))) = some r := by first | (rw [hy204]; with_reducible exact H) | (have H2_ := (Option.bind_some _ _).symm.trans H; rw [hy204]; with_reducible exact H2_) | (have H2_ := (Option.bind_some _ _).symm.trans H; with_reducible exact H2_) | with_reducible exact H | (rw [hy204]; exact H) | exact H
                              have Ny204 := Aside0.mk hy204
                              clear hy204
                              have H' := Aside0.mk H
                              clear H
                              have p89 : 0 ≤ (x132_3 : Int) := of_decide_eq_true (by first | (with_reducible assumption) | assumption)
                              have q89 : (x132_3 : Int) < ((x8_3.length : Int) : Int) := of_decide_eq_true (by first | (with_reducible assumption) | assumption)
                              obtain ⟨go89, co89, eo89, gb89, gl89, cl89, HG89⟩ := Kd.R_form HO_8.out (by omega)
                              (first | cases eo89 | (injection eo89 with ea_ en_ ec_; (first | subst ea_ | (injection ea_ with ea_; subst ea_)); subst ec_; clear en_))
                              have GB89 := Aside0.mk gb89
                              have GG89 := Aside0.mk HG89
                              clear gb89 gl89 HG89
                              obtain ⟨hx89_0, hf89_0⟩ := Kd.R_celln 0 HO_8.out (x132_3 : Int) p89 q89
                              replace p89 := eq_true p89
                              replace q89 := eq_true q89
                              have HP90 := Kd.R_putg HO_8.out (x132_3 : Int) 99
                              go_wp2_with (first | ((with_reducible refine gate_store (t := 3) (p := 137) rfl ?_); refine store_event (t := 3) (p := 137) (v := ?vo_w91) (w1 := (wr.setCell ⟨go89, (x132_3 : Int).toNat, none⟩ (.int .i64 99))) ?hg ?ho ?hn ?hr ?_; (case ho => rfl); (case hg => rfl); (case hn => rfl); (case hr => first | (go_simp; done) | (go_simp; rfl)); intro w91 hw; have hg : wr.grownBy w91 (some go89) := (by rw [hw]; exact HP90.2); have hp_ : Kd.R (Kd.int .i64) 3 w91 w.heap.size (fun k_ => some k_ ≠ (.slice Ao18 y173.length co18 : Value).ownBlock ∧ some k_ ≠ (v182 : Value).ownBlock) (.slice (some ⟨go89, 0, none⟩) x8_3.length co85) y204 := (by rw [hw, Ny204.out]; exact HP90.1); clear HP90; have n0_ := Aside0.mk (Kd.R_after (v := (.slice (some ⟨go89, 0, none⟩) x8_3.length co85)) (v1 := (.slice (some ⟨go89, 0, none⟩) x8_3.length co85)) (ok := (fun k_ => some k_ ≠ (v182 : Value).ownBlock)) (by (with_reducible repeat (first | apply Kd.R_alloc | apply Kd.R_drewN | apply Kd.R_drew)); exact Kd.R_mono HO_7.out (fun _ hk => ⟨hk.2, hk.1⟩)) hg (.inl rfl)); have n1_ := Aside0.mk (hp_); have n2_ := Aside0.mk (Kd.R_after (v := (.slice (some ⟨go89, 0, none⟩) x8_3.length co85)) (v1 := (.slice (some ⟨go89, 0, none⟩) x8_3.length co85)) (ok := (fun k_ => some k_ ≠ (.slice Ao18 y173.length co18 : Value).ownBlock)) (by (with_reducible repeat (first | apply Kd.R_alloc | apply Kd.R_drewN | apply Kd.R_drew)); exact HO_10.out) hg (.inl rfl)); have n3_ := Aside0.mk ((by rw [hw]; exact below_set (HB.out) GB89.out : Below w.heap.size w w91)); clear HO_7; clear HO_8; clear HO_10; clear HB; have HO_7 := n0_; have HO_8 := n1_; have HO_10 := n2_; have HB := n3_; clear n0_ n1_ n2_ n3_; clear hg hw hp_))
                              (try simp only [← hl8_3])
                              go_roundg k3
                              case measure => have := HJ12.out; have := HJ33.out; have := HK3.out; omega
                              case rel => exact ⟨(y204), (wrap64 (x132_3 + 1)), (by first | rfl | (simp; done) | (simp [*]; done)), H', ⟨by have := HJ12.out; have := HJ33.out; have := HK3.out; omega⟩, ⟨by (try simp only [hl8_3]); (with_reducible repeat (first | apply Kd.R_alloc | apply Kd.R_drewN | apply Kd.R_drew)); exact Kd.R_mono HO_7.out (fun _ hk => ⟨hk.2, hk.1⟩)⟩, ⟨by (try simp only [hl8_3]); (with_reducible repeat (first | apply Kd.R_alloc | apply Kd.R_drewN | apply Kd.R_drew)); exact HO_8.out⟩, ⟨by (try simp only [hl8_3]); (with_reducible repeat (first | apply Kd.R_alloc | apply Kd.R_drewN | apply Kd.R_drew)); exact HO_10.out⟩, ⟨by repeat (first | (with_reducible first | exact HB.out | apply below_alloc | apply pw_below_drewN | apply below_drew1) | exact HB.out)⟩⟩
                            · rw [if_neg c88] at H
                              exact absurd H (by simp)
                          · rw [if_neg c87] at H
                            exact absurd H (by simp)
                        · rw [if_neg c86] at H
                          have c86b0 : decide (x132_3 < (t176.length : Int)) = false := decide_eq_false c86
                          have c86b9 : decide (x132_3 < (x8_3.length : Int)) = false := by rw [← hl8_3]; exact c86b0
                          clear c86
                          have H' := Aside0.mk H
                          clear H
                          obtain ⟨Ao92, co92, eo92⟩ := Kd.R_slice HO_10.out
                          subst eo92
                          go_wp2
                          go_loopg [141] k3 (fun kq v141 w' => ∃ (x10_4 : List Int) (x141_4 : Int), v141 = .int .i64 x141_4 ∧ Aside0 (calepinlaw21_MemberLists.l1 kq l0 y173 x10_4 (t180.length : Int) x141_4 = some r) ∧ Aside0 (kq ≤ k3) ∧ Aside0 (Kd.R (Kd.int .i64) 3 w' w.heap.size (fun k_ => some k_ ≠ ((.slice Ao92 t180.length co92) : Value).ownBlock) (.slice Ao18 y173.length co18) y173) ∧ Aside0 (Kd.R (Kd.int .i64) 3 w' w.heap.size (fun k_ => some k_ ≠ ((.slice Ao18 y173.length co18) : Value).ownBlock) (.slice Ao92 t180.length co92) x10_4) ∧ Aside0 (Below w.heap.size w w'))
                          case atStart => exact ⟨(t180), (0), (by first | rfl | (simp; done) | (simp [*]; done)), H', ⟨Nat.le_refl _⟩, ⟨by (try simp only [hl8_3]); (with_reducible repeat (first | apply Kd.R_alloc | apply Kd.R_drewN | apply Kd.R_drew)); exact Kd.R_mono HO_7.out (fun _ hk => hk.2)⟩, ⟨by (try simp only [hl8_3]); (with_reducible repeat (first | apply Kd.R_alloc | apply Kd.R_drewN | apply Kd.R_drew)); exact Kd.R_mono HO_10.out (fun _ hk => hk.1)⟩, ⟨by repeat (first | (with_reducible first | exact HB.out | apply below_alloc | apply pw_below_drewN | apply below_drew1) | exact HB.out)⟩⟩
                          case round =>
                            clear H'
                            try clear c1
                            try clear c2
                            try clear p2
                            try clear c3
                            try clear c4
                            try clear c5
                            try clear c6
                            try clear c6b0
                            try clear p6
                            try clear c7
                            try clear c8
                            try clear p8
                            try clear q8
                            try clear hx8
                            try clear hf8
                            try clear c9
                            try clear c10
                            try clear c11
                            try clear c12
                            try clear c14
                            try clear c24
                            try clear c27
                            try clear c27b0
                            try clear c27b1
                            try clear c27b2
                            try clear c30
                            try clear c30b0
                            try clear c30b1
                            try clear c30b2
                            try clear c33
                            try clear c36
                            try clear c37
                            try clear c37b0
                            try clear c37b1
                            try clear c37b2
                            try clear c38
                            try clear c40
                            try clear c41
                            try clear c41b0
                            try clear c41b1
                            try clear c41b2
                            try clear c44
                            try clear c46
                            try clear c60
                            try clear c60b0
                            try clear c60b1
                            try clear c62
                            try clear c62b0
                            try clear c62b1
                            try clear c62b2
                            try clear c64
                            try clear p64
                            try clear c66
                            try clear c75
                            try clear c75b0
                            try clear c75b1
                            try clear c75b2
                            try clear c76
                            try clear c78
                            try clear c84
                            try clear c86
                            try clear c86b0
                            try clear c87
                            try clear c87b0
                            try clear c88
                            try clear c88b0
                            try clear p89
                            try clear q89
                            try clear hx89
                            try clear hf89
                            try clear hx89_0
                            try clear p2
                            try clear p6
                            try clear p64
                            try clear p89
                            try clear q89
                            obtain ⟨x10_4, x141_4, rfl, HA, HK4, HO_7, HO_10, HB⟩ := hrel
                            have hl10_4 := (Kd.R_reads' HO_10.out).1
                            rw [hl10_4] at HO_10
                            (try simp only [hl10_4])
                            (try simp only [hl10_4] at HO_7)
                            cases gk with
                            | zero => exact absurd HA.out (by simp [calepinlaw21_MemberLists.l1])
                            | succ k4 =>
                              have H := HA.out
                              clear HA
                              simp only [calepinlaw21_MemberLists.l1] at H
                              by_cases c93 : x141_4 < (t180.length : Int)
                              · rw [if_pos c93] at H
                                have c93b0 : decide (x141_4 < (t180.length : Int)) = true := decide_eq_true c93
                                clear c93
                                by_cases c94 : 0 ≤ x141_4
                                · rw [if_pos c94] at H
                                  have c94b0 : decide (0 ≤ x141_4) = true := decide_eq_true c94
                                  clear c94
                                  by_cases c95 : x141_4 < (x10_4.length : Int)
                                  · rw [if_pos c95] at H
                                    have c95b0 : decide (x141_4 < (x10_4.length : Int)) = true := decide_eq_true c95
                                    clear c95
                                    obtain ⟨y205, hy205⟩ : ∃ y_ : List Int, y_ = (x10_4.set (x141_4 : Int).toNat 99) := ⟨_, rfl⟩
                                    replace H : (calepinlaw21_MemberLists.l1 k4 l0 y173 y205 (t180.length : Int) (wrap64 (x141_4 + 1))) = some r := by first | (rw [hy205]; with_reducible exact H) | (have H2_ := (Option.bind_some _ _).symm.trans H; rw [hy205]; with_reducible exact H2_) | (have H2_ := (Option.bind_some _ _).symm.trans H; with_reducible exact H2_) | with_reducible exact H | (rw [hy205]; exact H) | exact H
                                    have Ny205 := Aside0.mk hy205
                                    clear hy205
                                    have H' := Aside0.mk H
                                    clear H
                                    have p96 : 0 ≤ (x141_4 : Int) := of_decide_eq_true (by first | (with_reducible assumption) | assumption)
                                    have q96 : (x141_4 : Int) < ((x10_4.length : Int) : Int) := of_decide_eq_true (by first | (with_reducible assumption) | assumption)
                                    obtain ⟨go96, co96, eo96, gb96, gl96, cl96, HG96⟩ := Kd.R_form HO_10.out (by omega)
                                    (first | cases eo96 | (injection eo96 with ea_ en_ ec_; (first | subst ea_ | (injection ea_ with ea_; subst ea_)); subst ec_; clear en_))
                                    have GB96 := Aside0.mk gb96
                                    have GG96 := Aside0.mk HG96
                                    clear gb96 gl96 HG96
                                    obtain ⟨hx96_0, hf96_0⟩ := Kd.R_celln 0 HO_10.out (x141_4 : Int) p96 q96
                                    replace p96 := eq_true p96
                                    replace q96 := eq_true q96
                                    have HP97 := Kd.R_putg HO_10.out (x141_4 : Int) 99
                                    go_wp2_with (first | ((with_reducible refine gate_store (t := 3) (p := 146) rfl ?_); refine store_event (t := 3) (p := 146) (v := ?vo_w98) (w1 := (wr.setCell ⟨go96, (x141_4 : Int).toNat, none⟩ (.int .i64 99))) ?hg ?ho ?hn ?hr ?_; (case ho => rfl); (case hg => rfl); (case hn => rfl); (case hr => first | (go_simp; done) | (go_simp; rfl)); intro w98 hw; have hg : wr.grownBy w98 (some go96) := (by rw [hw]; exact HP97.2); have hp_ : Kd.R (Kd.int .i64) 3 w98 w.heap.size (fun k_ => some k_ ≠ (.slice Ao18 y173.length co18 : Value).ownBlock) (.slice (some ⟨go96, 0, none⟩) x10_4.length co92) y205 := (by rw [hw, Ny205.out]; exact HP97.1); clear HP97; have n0_ := Aside0.mk (Kd.R_after (v := (.slice (some ⟨go96, 0, none⟩) x10_4.length co92)) (v1 := (.slice (some ⟨go96, 0, none⟩) x10_4.length co92)) (ok := (fun _ => True)) (by (with_reducible repeat (first | apply Kd.R_alloc | apply Kd.R_drewN | apply Kd.R_drew)); exact Kd.R_mono HO_7.out (fun _ hk => ⟨trivial, hk⟩)) hg (.inl rfl)); have n1_ := Aside0.mk (hp_); have n2_ := Aside0.mk ((by rw [hw]; exact below_set (HB.out) GB96.out : Below w.heap.size w w98)); clear HO_7; clear HO_10; clear HB; have HO_7 := n0_; have HO_10 := n1_; have HB := n2_; clear n0_ n1_ n2_; clear hg hw hp_))
                                    (try simp only [← hl10_4])
                                    go_roundg k4
                                    case measure => have := HJ12.out; have := HJ33.out; have := HK3.out; have := HK4.out; omega
                                    case rel => exact ⟨(y205), (wrap64 (x141_4 + 1)), (by first | rfl | (simp; done) | (simp [*]; done)), H', ⟨by have := HJ12.out; have := HJ33.out; have := HK3.out; have := HK4.out; omega⟩, ⟨by (try simp only [hl8_3]); (try simp only [hl10_4]); (with_reducible repeat (first | apply Kd.R_alloc | apply Kd.R_drewN | apply Kd.R_drew)); exact Kd.R_mono HO_7.out (fun _ hk => hk.2)⟩, ⟨by (try simp only [hl8_3]); (try simp only [hl10_4]); (with_reducible repeat (first | apply Kd.R_alloc | apply Kd.R_drewN | apply Kd.R_drew)); exact HO_10.out⟩, ⟨by repeat (first | (with_reducible first | exact HB.out | apply below_alloc | apply pw_below_drewN | apply below_drew1) | exact HB.out)⟩⟩
                                  · rw [if_neg c95] at H
                                    exact absurd H (by simp)
                                · rw [if_neg c94] at H
                                  exact absurd H (by simp)
                              · rw [if_neg c93] at H
                                have c93b0 : decide (x141_4 < (t180.length : Int)) = false := decide_eq_false c93
                                have c93b9 : decide (x141_4 < (x10_4.length : Int)) = false := by rw [← hl10_4]; exact c93b0
                                clear c93
                                replace H := Option.bind_eq_some_iff.mp H
                                obtain ⟨t206, A990, H⟩ := H
                                replace H : (if t206 = true then ((member_Most.f y173).bind fun t207 => (some (t207 == (wrap64 ((wrap64 ((l0.length : Int) / 2)) + 1))))) else (some false)) = some r := H
                                have A99 := Aside0.mk A990
                                clear A990
                                by_cases c100 : t206 = true
                                · subst c100
                                  have H1 : ((member_Most.f y173).bind fun t207 => (some (t207 == (wrap64 ((wrap64 ((l0.length : Int) / 2)) + 1))))) = some r := by rw [if_pos rfl] at H; exact H
                                  clear H
                                  have H := H1
                                  clear H1
                                  replace H := Option.bind_eq_some_iff.mp H
                                  obtain ⟨t207, A1010, H⟩ := H
                                  replace H : (some (t207 == (wrap64 ((wrap64 ((l0.length : Int) / 2)) + 1)))) = some r := H
                                  have A101 := Aside0.mk A1010
                                  clear A1010
                                  obtain rfl := Option.some.inj H
                                  go_wp2_with (first | ((with_reducible refine gate_callee (f := 12) rfl ?_); refine goesL_ (some 150) rfl rfl Try.func12 (by kernel_rfl) rfl #[.slice Ao18 y173.length co18, .slice A0 l0.length c0] rfl (by (try simp only [List.map_toArray, List.map_cons, List.map_nil]); first | done | rfl | (simp only [List.length_drop, List.length_take]; rfl)) ?_; (with_reducible refine (calepinlaw21_same.calls k4 _ _ y173 _ _ l0 true _ ?side1 ?side2 ?side3 ?side4 A99.out).mono ?_); (case side1 => repeat (first | exact (Kd.R_reads' HO_7.out).2.2 | (with_reducible refine Kd.C_alloc ?_ _) | (with_reducible refine Kd.C_drewN ?_ _) | (with_reducible refine Kd.C_drew ?_))); (case side2 => exact (Kd.R_reads' HO_7.out).2.1); (case side3 => repeat (first | exact (Kd.C_below HR0.out HB.out) | (with_reducible refine Kd.C_alloc ?_ _) | (with_reducible refine Kd.C_drewN ?_ _) | (with_reducible refine Kd.C_drew ?_))); (case side4 => exact HC0.out); rintro e w' ⟨rfl, ⟨nd, rfl⟩⟩; refine ⟨_, rfl, ?_⟩) | (go_at_call 19; (with_reducible refine (member_Most.calls _ _ y173 t207 _ ?side1 ?side2 A101.out).mono ?_); (case side1 => repeat (first | exact (Kd.R_reads' HO_7.out).2.2 | (with_reducible refine Kd.C_alloc ?_ _) | (with_reducible refine Kd.C_drewN ?_ _) | (with_reducible refine Kd.C_drew ?_))); (case side2 => exact (Kd.R_reads' HO_7.out).2.1); rintro e w' ⟨rfl, ⟨nd, rfl⟩⟩))
                                  go_ret
                                  exact ⟨by first | rfl | (simp [errW_none, errW_some] <;> rfl) | (simp [*, errW_none, errW_some] <;> rfl), by repeat (first | (with_reducible first | exact HB.out | apply below_alloc | apply pw_below_drewN | apply below_drew1) | exact HB.out)⟩
                                · replace c100 := Bool.eq_false_iff.mpr c100
                                  subst c100
                                  have H1 : (some false) = some r := by rw [if_neg (show ¬ (false = true) by decide)] at H; exact H
                                  clear H
                                  have H := H1
                                  clear H1
                                  obtain rfl := Option.some.inj H
                                  go_wp2_with (first | ((with_reducible refine gate_callee (f := 12) rfl ?_); refine goesL_ (some 150) rfl rfl Try.func12 (by kernel_rfl) rfl #[.slice Ao18 y173.length co18, .slice A0 l0.length c0] rfl (by (try simp only [List.map_toArray, List.map_cons, List.map_nil]); first | done | rfl | (simp only [List.length_drop, List.length_take]; rfl)) ?_; (with_reducible refine (calepinlaw21_same.calls k4 _ _ y173 _ _ l0 false _ ?side1 ?side2 ?side3 ?side4 A99.out).mono ?_); (case side1 => repeat (first | exact (Kd.R_reads' HO_7.out).2.2 | (with_reducible refine Kd.C_alloc ?_ _) | (with_reducible refine Kd.C_drewN ?_ _) | (with_reducible refine Kd.C_drew ?_))); (case side2 => exact (Kd.R_reads' HO_7.out).2.1); (case side3 => repeat (first | exact (Kd.C_below HR0.out HB.out) | (with_reducible refine Kd.C_alloc ?_ _) | (with_reducible refine Kd.C_drewN ?_ _) | (with_reducible refine Kd.C_drew ?_))); (case side4 => exact HC0.out); rintro e w' ⟨rfl, ⟨nd, rfl⟩⟩; refine ⟨_, rfl, ?_⟩))
                                  go_ret
                                  exact ⟨by first | rfl | (simp [errW_none, errW_some] <;> rfl) | (simp [*, errW_none, errW_some] <;> rfl), by repeat (first | (with_reducible first | exact HB.out | apply below_alloc | apply pw_below_drewN | apply below_drew1) | exact HB.out)⟩
      · rw [if_neg c8] at H
        exact absurd H (by simp)
  · replace c5 := Bool.eq_false_iff.mpr c5
    subst c5
    have H1 : (some false) = some r := by rw [if_neg (show ¬ (false = true) by decide)] at H; exact H
    clear H
    have H := H1
    clear H1
    obtain rfl := Option.some.inj H
    go_enter Try.func3, Try.ntmps3
    go_wp2_with (first | ((with_reducible refine gate_callee (f := 7) rfl ?_); refine goesL_ (some 18) rfl rfl Try.func7 (by kernel_rfl) rfl #[] rfl (by (try simp only [List.map_toArray, List.map_cons, List.map_nil]); first | done | rfl | (simp only [List.length_drop, List.length_take]; rfl)) ?_; (with_reducible refine (calepinlaw21_first.calls k  false _ A4.out).mono ?_); rintro e w102 ⟨rfl, hb⟩; refine ⟨_, rfl, ?_⟩; have n0_ := Aside0.mk (below_step (by repeat (first | (with_reducible first | exact HB.out | apply below_alloc | apply pw_below_drewN | apply below_drew1) | exact HB.out)) hb); clear HB; have HB := n0_; clear n0_; (try clear hb); (try clear hb2); (try clear hk); (try clear hi)))
    go_ret
    exact ⟨by first | rfl | (simp [errW_none, errW_some] <;> rfl) | (simp [*, errW_none, errW_some] <;> rfl), by repeat (first | (with_reducible first | exact HB.out | apply below_alloc | apply pw_below_drewN | apply below_drew1) | exact HB.out)⟩

/-- THE ONE PURE STATEMENT of calepinlaw21_MemberLists: yours. -/
def calepinlaw21_MemberLists.Pure : Prop := ∀ (l0 : List Int) (l1 : List Int) (a2 : Int), l0.length ≤ maxLen → l0.length * 8 ≤ 140737488351232 → (∀ x ∈ l0, (Lit.int .i64 x).wf = true) → l1.length ≤ maxLen → l1.length * 8 ≤ 140737488351232 → (∀ x ∈ l1, (Lit.int .i64 x).wf = true) → (Lit.int .i64 a2).wf = true → ∃ k, calepinlaw21_MemberLists.f k l0 l1 a2 = some true
theorem calepinlaw21_MemberLists.walk (P : calepinlaw21_MemberLists.Pure) (a0 : Option Addr) (len0 cap0 : Nat) (z0 : List Int) (a1 : Option Addr) (len1 cap1 : Nat) (z1 : List Int) (a2 : Int) (w : World) (w0 : (a0 = none ∧ len0 = 0 ∧ cap0 = 0 ∧ z0 = []) ∨ ∃ x, a0 = some x ∧ len0 ≤ cap0 ∧ cap0 ≤ maxLen ∧ z0.length = cap0 ∧ (∀ i, i < z0.length → w.cell? (x.add i) = some (.int .i64 (z0.getD i 0))) ∧ ∀ n ∈ z0, (Lit.int .i64 n).wf = true) (y0 : len0 * 8 ≤ 140737488351232) (w1 : (a1 = none ∧ len1 = 0 ∧ cap1 = 0 ∧ z1 = []) ∨ ∃ x, a1 = some x ∧ len1 ≤ cap1 ∧ cap1 ≤ maxLen ∧ z1.length = cap1 ∧ (∀ i, i < z1.length → w.cell? (x.add i) = some (.int .i64 (z1.getD i 0))) ∧ ∀ n ∈ z1, (Lit.int .i64 n).wf = true) (y1 : len1 * 8 ≤ 140737488351232) (w2 : (Lit.int .i64 a2).wf = true) :
    Calls Try.prog 3 #[.slice a0 len0 cap0, .slice a1 len1 cap1, .int .i64 a2] w fun e w' => e = .returned (.bool true) ∧ Below w.heap.size w w' := by
  obtain ⟨l0, rfl, hr0, hm0, hw0, hc0⟩ := ReadsInt.ofRowC w0
  obtain ⟨l1, rfl, hr1, hm1, hw1, hc1⟩ := ReadsInt.ofRowC w1
  obtain ⟨k, h⟩ := P l0 l1 a2 hm0 y0 hw0 hm1 y1 hw1 w2
  refine (calepinlaw21_MemberLists.calls k _ _ l0 _ _ l1 a2 true w (Kd.C_of_reads (d := (0 : Int)) (h1 := fun _ => rfl) hr0) hc0 (Kd.C_of_reads (d := (0 : Int)) (h1 := fun _ => rfl) hr1) hc1 h).mono ?_
  rintro e w' ⟨rfl, hd⟩
  exact ⟨rfl, hd⟩

end Go.Proofs.Ytknaffajmfimbaa.PM
