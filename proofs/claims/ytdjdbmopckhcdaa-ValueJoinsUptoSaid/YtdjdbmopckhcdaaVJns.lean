/- The law of joining. -/
import Derived.Test.YtdjdbmopckhcdaaVSgn
namespace Go.Proofs.Ytdjdbmopckhcdaa.PV
open Go.RowKit Go.Proofs.YtdjdbmopckhcdaaW.PrintWords Go.Proofs.YtdjdbmopckhcdaaW.PrintLast Go.Proofs.YtdjdbmopckhcdaaW.PrintMore
open Go.Proofs Go.Proofs.Ytdjdbmopckhcdaa
set_option linter.unusedVariables false
set_option linter.unusedSimpArgs false
set_option maxHeartbeats 4000000
set_option maxRecDepth 100000



theorem sgn_append (u v : List UInt8) : ∀ s, sgn u = some s → sgn (u ++ v) = (sgn v).map (s ++ ·) := by
  refine bytes_all (P := fun u => ∀ s, sgn u = some s → sgn (u ++ v) = (sgn v).map (s ++ ·)) u ?_ ?_ ?_ ?_
  · intro s h; rw [sgn_nil] at h; injection h with h; subst h
    cases h : sgn v <;> simp [h]
  · intro s h; rw [sgn_stroke] at h; cases h
  · intro c r ih s h
    rw [sgn_esc] at h
    obtain ⟨x, hx, h⟩ := Option.bind_eq_some_iff.1 h
    obtain ⟨q, hq, rfl⟩ := Option.map_eq_some_iff.1 h
    show sgn (92 :: c :: (r ++ v)) = _
    rw [sgn_esc, hx, ih q hq]
    cases sgn v <;> rfl
  · intro b r hb ih s h
    rw [sgn_one b r hb] at h
    obtain ⟨q, hq, rfl⟩ := Option.map_eq_some_iff.1 h
    show sgn (b :: (r ++ v)) = _
    rw [sgn_one b _ hb, ih q hq]
    cases sgn v <;> rfl
theorem parts_append (sg : UInt8) (t : List (UInt8 × Bool)) : ∀ s, parts sg (s ++ (sg, false) :: t) = parts sg s ++ parts sg t
  | [] => by
    show parts sg ((sg, false) :: t) = [[]] ++ parts sg t
    conv => lhs; unfold parts
    rw [if_pos ⟨rfl, rfl⟩]; rfl
  | x :: s => by
    have ih := parts_append sg t s
    obtain ⟨h2, t2, e2⟩ := parts_ne sg s
    show parts sg (x :: (s ++ (sg, false) :: t)) = parts sg (x :: s) ++ parts sg t
    have u : ∀ r, parts sg (x :: r) = if x.1 = sg ∧ x.2 = false then [] :: parts sg r else cHd x (parts sg r) := by
      intro r
      conv => lhs; unfold parts
    rw [u, u, ih, e2]
    split <;> rfl
theorem w_joins (n : Nat) (x0 x1 x5 x6 x7 x8 x9 x11) : calepinlaw04_ValueJoins.j0 (n + 1) x0 x1 x5 x6 x7 x8 x9 x11 true = (if x1.size + 1 ≤ 9223372036854775807 then (if (x1 ++ (⟨#[44]⟩ : ByteArray)).size + x0.size ≤ 9223372036854775807 then ((value_List.f ((x1 ++ (⟨#[44]⟩ : ByteArray)) ++ x0)).bind fun bt225 => (if x6 = 0 then (some true) else (if x8 = 0 then (if bt225.2 = 31 then (some true) else (some (x8 != 0))) else (some (x8 != 0))))) else (none)) else (none)) := rfl
theorem joins_pure (a b : ByteArray) (ha : a.size ≤ 1048576) (hb : b.size ≤ 1048576) : ∃ k, calepinlaw04_ValueJoins.f k a b = some true := by
  have hla : a.data.toList.length = a.size := rfl
  have hlb : b.data.toList.length = b.size := rfl
  have e44 : ∀ x y : ByteArray, ((x ++ (⟨#[44]⟩ : ByteArray)) ++ y).data.toList = x.data.toList ++ (44 :: y.data.toList) := by intro x y; simp
  have e59 : ∀ x y : ByteArray, ((x ++ (⟨#[59]⟩ : ByteArray)) ++ y).data.toList = x.data.toList ++ (59 :: y.data.toList) := by intro x y; simp
  have s44 : ∀ x : ByteArray, (x ++ (⟨#[44]⟩ : ByteArray)).size = x.size + 1 := by intro x; rw [ByteArray.size_append]; rfl
  have s59 : ∀ x : ByteArray, (x ++ (⟨#[59]⟩ : ByteArray)).size = x.size + 1 := by intro x; rw [ByteArray.size_append]; rfl
  cases h1 : sgn a.data.toList with
  | none =>
    refine ⟨1, ?_⟩
    unfold calepinlaw04_ValueJoins.f
    rw [first_is, Option.bind_some, if_pos (by trivial), list_f a (by omega), list_f b (by omega), fields_f a (by omega), fields_f b (by omega), listI_fails _ h1]
    simp only [Option.bind_some]
    rw [if_neg (by decide)]
    refine (w_joins 0 _ _ _ _ _ _ _ _).trans ?_
    rw [if_pos (by omega), if_pos (by rw [s44]; omega), list_f _ (by rw [ByteArray.size_append, s44]; omega), Option.bind_some, if_neg (by decide), e44]
    cases h2 : sgn b.data.toList with
    | none => rw [listI_fails _ h2]; rfl
    | some sb =>
      have hj : sgn (b.data.toList ++ (44 :: a.data.toList)) = none := by
        rw [sgn_append _ _ sb h2, sgn_one 44 _ (by decide), h1]; rfl
      rw [listI_fails _ hj, listI_sgn _ _ h2]
      rfl
  | some sa =>
    cases h2 : sgn b.data.toList with
    | none =>
      refine ⟨1, ?_⟩
      unfold calepinlaw04_ValueJoins.f
      rw [first_is, Option.bind_some, if_pos (by trivial), list_f a (by omega), list_f b (by omega), fields_f a (by omega), fields_f b (by omega), listI_sgn _ _ h1, listI_fails _ h2]
      simp only [Option.bind_some]
      rw [if_pos (by trivial)]
      refine (w_joins 0 _ _ _ _ _ _ _ _).trans ?_
      rw [if_pos (by omega), if_pos (by rw [s44]; omega), list_f _ (by rw [ByteArray.size_append, s44]; omega), Option.bind_some, if_pos (by trivial)]
    | some sb =>
      have ka := sgn_len _ _ h1
      have kb := sgn_len _ _ h2
      have q1 := (parts_small 44 sa a.size (by omega)).1
      have q2 := (parts_small 44 sb b.size (by omega)).1
      have p1 := (parts_small 59 sa a.size (by omega)).1
      have p2 := (parts_small 59 sb b.size (by omega)).1
      have j44 : sgn (a.data.toList ++ (44 :: b.data.toList)) = some (sa ++ (44, false) :: sb) := by
        rw [sgn_append _ _ sa h1, sgn_one 44 _ (by decide), h2]; rfl
      have j59 : sgn (a.data.toList ++ (59 :: b.data.toList)) = some (sa ++ (59, false) :: sb) := by
        rw [sgn_append _ _ sa h1, sgn_one 59 _ (by decide), h2]; rfl
      refine ⟨a.size + b.size + 8 + 1, ?_⟩
      unfold calepinlaw04_ValueJoins.f
      rw [first_is, Option.bind_some, if_pos (by trivial), list_f a (by omega), list_f b (by omega), fields_f a (by omega), fields_f b (by omega), listI_sgn _ _ h1, listI_sgn _ _ h2, fieldsI_sgn _ _ h1, fieldsI_sgn _ _ h2]
      simp only [Option.bind_some]
      rw [if_pos (by trivial)]
      have hj : ∀ n x0 x1 x5 x6 x7 x8 x9 x11, calepinlaw04_ValueJoins.j0 (n + 1) x0 x1 x5 x6 x7 x8 x9 x11 false = (if x0.size + 1 ≤ 9223372036854775807 then (if (x0 ++ (⟨#[44]⟩ : ByteArray)).size + x1.size ≤ 9223372036854775807 then ((value_List.f ((x0 ++ (⟨#[44]⟩ : ByteArray)) ++ x1)).bind fun bt229 => (if (x0 ++ (⟨#[59]⟩ : ByteArray)).size + x1.size ≤ 9223372036854775807 then ((value_Fields.f ((x0 ++ (⟨#[59]⟩ : ByteArray)) ++ x1)).bind fun bt233 => (if bt229.2 = 0 then (if bt233.2 = 0 then ((some (([] : List ByteArray) : List ByteArray)).bind fun y237 => (if y237.length + x5.length < 8796093022208 then ((some (y237 ++ x5 : List ByteArray)).bind fun y240 => (if y240.length + x7.length < 8796093022208 then ((calepinref04_Same.f n bt229.1 (y240 ++ x7)).bind fun t246 => (if t246 = true then (some ((bt233.1.length : Int) == (wrap64 ((x9.length : Int) + (x11.length : Int))))) else (some false))) else (none))) else (none))) else (some false)) else (some false))) else (none))) else (none)) else (none)) := fun n x0 x1 x5 x6 x7 x8 x9 x11 => rfl
      refine (hj _ _ _ _ _ _ _ _ _).trans ?_
      rw [if_pos (by omega), if_pos (by rw [s44]; omega), list_f _ (by rw [ByteArray.size_append, s44]; omega), Option.bind_some, if_pos (by rw [s59]; omega), fields_f _ (by rw [ByteArray.size_append, s59]; omega), Option.bind_some, e44, e59, listI_sgn _ _ j44, fieldsI_sgn _ _ j59, parts_append, parts_append]
      rw [if_pos (by trivial), if_pos (by trivial), Option.bind_some, if_pos (by rw [List.length_map]; simp; omega), Option.bind_some, if_pos (by rw [List.nil_append, List.length_map, List.length_map]; omega), List.nil_append, List.map_append]
      rw [same_f _ (by rw [List.length_append, List.length_map, List.length_map]; omega) _ (by rw [List.length_append, List.length_map, List.length_map]; omega), Option.bind_some, if_pos (by trivial)]
      congr 1
      rw [beq_iff_eq]
      simp only [List.length_map, List.length_append]
      unfold wrap64; omega
theorem joins_walk (a0 a1 : ByteArray) (w : World) (w0 : a0.size ≤ 1048576) (w1 : a1.size ≤ 1048576) : Calls Try.prog 4 #[.string a0, .string a1] w fun e w' => e = .returned (.bool true) ∧ Below w.heap.size w w' := by
  obtain ⟨k, hk⟩ := joins_pure a0 a1 w0 w1
  exact calepinlaw04_ValueJoins.calls k a0 a1 true w hk

end Go.Proofs.Ytdjdbmopckhcdaa.PV
