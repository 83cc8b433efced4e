/- The plain laws of PathMakes and PathReads; a text with every byte escaped. -/
import Derived.Test.YtjgialebelndmaaDoorPHx1
namespace Go.Proofs.YtjgialebelndmaaDoor.PH
open Go.RowKit Go.Proofs.YtjgialebelndmaaDoorW.PrintWords Go.Proofs.YtjgialebelndmaaDoorW.PrintLast Go.Proofs.YtjgialebelndmaaDoorW.PrintMore
open Go.Shelf
set_option linter.unusedVariables false
set_option linter.unusedSimpArgs false
set_option maxHeartbeats 4000000
set_option maxRecDepth 100000

open Go.Proofs Go.Lib Go.Proofs.YtjgialebelndmaaDoor.PF Go.Proofs.YtjgialebelndmaaDoor.PG
theorem esc1_all : ∀ X : Fin 256, (47 ∉ esc1 (UInt8.ofNat X.val)) ∧ esc1 (UInt8.ofNat X.val) ≠ [] := by decide +kernel
theorem esc1_47 (c : UInt8) : 47 ∉ esc1 c ∧ esc1 c ≠ [] := by
  have := esc1_all ⟨c.toNat, c.toNat_lt⟩
  simpa using this
theorem esc_47 : ∀ l : List UInt8, 47 ∉ escL l
  | [] => by simp [escL]
  | c :: l => by
    unfold escL
    rw [List.mem_append]
    exact fun h => h.elim (esc1_47 c).1 (esc_47 l)
theorem esc_ne (l : List UInt8) (h : l ≠ []) : escL l ≠ [] := by
  cases l with
  | nil => exact absurd rfl h
  | cons c l =>
    unfold escL
    exact fun e => (esc1_47 c).2 (List.append_eq_nil_iff.1 e).1
theorem dgh_all : ∀ X : Fin 16, dg (hxd X.val) = (X.val : Int) := by decide +kernel
theorem dgh (k : Nat) (h : k < 16) : dg (hxd k) = (k : Int) := dgh_all ⟨k, h⟩
theorem pl37 : pl 37 = false := by decide +kernel
theorem join_is (c : UInt8) : UInt8.ofNat (c.toNat / 16 * 16 + c.toNat % 16) = c := by
  rw [show c.toNat / 16 * 16 + c.toNat % 16 = c.toNat by omega]; simp
theorem unL_three (c a b : UInt8) (r : List UInt8) (ha : dg a = ((c.toNat / 16 : Nat) : Int)) (hb : dg b = ((c.toNat % 16 : Nat) : Int)) : unL (37 :: a :: b :: r) = (unL r).map (c :: ·) := by
  rw [unL_pct, ha, hb, if_neg (by omega), Int.toNat_natCast, Int.toNat_natCast, join_is]
theorem unL_esc : ∀ l : List UInt8, unL (escL l) = some l
  | [] => rfl
  | c :: l => by
    have ih := unL_esc l
    have hc := c.toNat_lt
    unfold escL esc1
    cases hp : pl c with
    | true =>
      have h37 : c ≠ 37 := fun e => by rw [e, pl37] at hp; cases hp
      show unL (c :: escL l) = _
      rw [unL_plain c _ h37, hp, if_pos rfl, ih]; rfl
    | false =>
      show unL (37 :: hxd (c.toNat / 16) :: hxd (c.toNat % 16) :: escL l) = _
      rw [unL_three c _ _ _ (dgh _ (by omega)) (dgh _ (by omega)), ih]; rfl
theorem txtL_of (l t : List UInt8) (h : unL l = some t) (hf : fitsL t = true) : txtL l = some t := by
  unfold txtL
  rw [h, Option.bind_some, hf]; rfl
theorem prs_two (u v : List UInt8) (h : 47 ∉ u) : prsL (47 :: (u ++ 47 :: v)) = finO u v := by
  unfold prsL
  rw [if_neg (by simp)]
  show (if (47 : UInt8) = 47 then _ else _) = _
  rw [if_pos rfl, cut47_app u v h]; rfl
theorem fits_ne (l : List UInt8) (h : fitsL l = true) : l ≠ [] := fun e => by rw [e] at h; cases h
theorem prs_of (c n r : List UInt8) (h : ofL c n = some r) : prsL r = some (c, n) := by
  unfold ofL at h
  by_cases h0 : c = [] ∧ n = []
  · rw [if_pos h0] at h
    cases h
    rw [h0.1, h0.2]; rfl
  · rw [if_neg h0] at h
    cases hc : fitsL c with
    | false => rw [hc] at h; cases h
    | true =>
      rw [hc, if_pos rfl] at h
      by_cases hn : n = []
      · rw [if_pos hn] at h
        injection h with h
        rw [← h, show [47] ++ escL c ++ [47] = 47 :: (escL c ++ 47 :: []) by simp, prs_two _ _ (esc_47 c)]
        unfold finO
        rw [txtL_of _ _ (unL_esc c) hc, Option.bind_some, if_pos rfl, hn]
      · rw [if_neg hn] at h
        cases hf : fitsL n with
        | false => rw [hf] at h; cases h
        | true =>
          rw [hf, if_pos rfl] at h
          injection h with h
          rw [← h, show [47] ++ escL c ++ [47] ++ escL n = 47 :: (escL c ++ 47 :: escL n) by simp, prs_two _ _ (esc_47 c)]
          unfold finO
          rw [txtL_of _ _ (unL_esc c) hc, Option.bind_some, if_neg (esc_ne n hn), txtL_of _ _ (unL_esc n) hf]; rfl
theorem of_len (c n r : List UInt8) (h : ofL c n = some r) : r.length ≤ 2 + 3 * c.length + 3 * n.length := by
  have h1 := escL_len c
  have h2 := escL_len n
  unfold ofL at h
  split at h
  · cases h; simp only [List.length_cons, List.length_nil]; omega
  · split at h
    · split at h
      · injection h with h; subst h; simp only [List.length_append, List.length_cons, List.length_nil]; omega
      · split at h
        · injection h with h; subst h; simp only [List.length_append, List.length_cons, List.length_nil]; omega
        · cases h
    · cases h
theorem first_is : calepinlaw06_first.f = some true := by decide +kernel
theorem mk_tl (l : List UInt8) : (mkB l).toList = l := by rw [Lib.toList_data, mkB_list]
theorem emp_tl : (⟨#[]⟩ : ByteArray).toList = [] := by rw [Lib.toList_data]
theorem reads_true (a0 : ByteArray) (h : a0.size ≤ 1073741824) : calepinlaw06_PathReads.f a0 = some true := by
  have h1 : path_Parse.f a0 = some (resQ (prsL a0.data.toList)) := by unfold path_Parse.f; rw [if_pos h]
  have h2 : calepinref06_Parse.f a0 = some (resP (prsL a0.data.toList)) := by unfold calepinref06_Parse.f; rw [if_pos h]
  unfold calepinlaw06_PathReads.f
  rw [first_is, h1, h2]
  simp only [Option.bind_some, if_true]
  cases prsL a0.data.toList with
  | none => simp [resQ, resP, emp_tl]
  | some r => simp [resQ, resP]
theorem makes_true (a0 a1 : ByteArray) (h0 : a0.size ≤ 1048576) (h1 : a1.size ≤ 1048576) : ∃ k, calepinlaw06_PathMakes.f k a0 a1 = some true := by
  have e1 : path_Of.f a0 a1 = some (resE (ofL a0.data.toList a1.data.toList)) := by unfold path_Of.f; rw [if_pos ⟨by omega, by omega⟩]
  have e2 : calepinref06_Of.f a0 a1 = some (resO (ofL a0.data.toList a1.data.toList)) := by unfold calepinref06_Of.f; rw [if_pos ⟨by omega, by omega⟩]
  have e3 : path_Segment.f a0 = some (resE (if fitsL a0.data.toList then some (escL a0.data.toList) else none)) := by unfold path_Segment.f; rw [if_pos (by omega)]
  have e4 : calepinref06_Segment.f a0 = some (mkB (escL a0.data.toList)) := by unfold calepinref06_Segment.f; rw [if_pos (by omega)]
  have hj : calepinlaw06_PathMakes.j0 1 a0 a1 false = some true := by
    have hs0 : a0.data.toList.length = a0.size := rfl
    have hs1 : a1.data.toList.length = a1.size := rfl
    show ((path_Of.f a0 a1).bind fun bt115 => _) = _
    rw [e1, e2]
    simp only [Option.bind_some]
    cases ho : ofL a0.data.toList a1.data.toList with
    | none => simp [resE, resO, emp_tl]
    | some r =>
      have hr := of_len _ _ _ ho
      have e5 : path_Parse.f (mkB r) = some (resQ (some (a0.data.toList, a1.data.toList))) := by
        unfold path_Parse.f
        rw [mkB_list, prs_of _ _ _ ho, if_pos (by rw [mkB_size]; omega)]
      simp only [resE, resO, if_true, e5, resQ, Option.bind_some, mk_tl, Lib.toList_data a0, Lib.toList_data a1]
      simp
  refine ⟨1, ?_⟩
  unfold calepinlaw06_PathMakes.f
  rw [first_is, e3, e4, show calepinref06_Fits.f a0 = some (fitsL a0.data.toList) from rfl, hj]
  cases fitsL a0.data.toList with
  | true => simp [resE]
  | false => simp [resE, emp_tl, hj]
/-! ### a text with every byte escaped -/
def hexS2 (g : Bool) : List UInt8 := if g then [48, 49, 50, 51, 52, 53, 54, 55, 56, 57, 65, 66, 67, 68, 69, 70] else [48, 49, 50, 51, 52, 53, 54, 55, 56, 57, 97, 98, 99, 100, 101, 102]
def hx (g : Bool) (k : Nat) : UInt8 := (hexS2 g).getD k 0
theorem hx_all : ∀ (g : Bool) (X : Fin 16), dg (hx g X.val) = (X.val : Int) ∧ hx g X.val ≠ 47 := by decide +kernel
def allL (g : Bool) : List UInt8 → List UInt8
  | [] => []
  | c :: l => [37, hx g (c.toNat / 16), hx g (c.toNat % 16)] ++ allL g l
theorem allL_app (g : Bool) : ∀ (a b : List UInt8), allL g (a ++ b) = allL g a ++ allL g b
  | [], b => rfl
  | x :: a, b => by
    show _ ++ allL g (a ++ b) = (_ ++ allL g a) ++ allL g b
    rw [allL_app g a b, List.append_assoc]
theorem allL_len (g : Bool) : ∀ l : List UInt8, (allL g l).length = 3 * l.length
  | [] => rfl
  | c :: l => by
    unfold allL
    rw [List.length_append, allL_len g l]
    simp only [List.length_cons, List.length_nil]; omega
theorem allL_47 (g : Bool) : ∀ l : List UInt8, 47 ∉ allL g l
  | [] => by simp [allL]
  | c :: l => by
    have hc := c.toNat_lt
    have h1 := (hx_all g ⟨c.toNat / 16, by omega⟩).2
    have h2 := (hx_all g ⟨c.toNat % 16, by omega⟩).2
    unfold allL
    rw [List.mem_append]
    rintro (h | h)
    · simp only [List.mem_cons, List.not_mem_nil, or_false] at h
      rcases h with h | h | h
      · cases h
      · exact h1 h.symm
      · exact h2 h.symm
    · exact allL_47 g l h
theorem unL_all (g : Bool) : ∀ l : List UInt8, unL (allL g l) = some l
  | [] => rfl
  | c :: l => by
    have hc := c.toNat_lt
    have h1 := (hx_all g ⟨c.toNat / 16, by omega⟩).1
    have h2 := (hx_all g ⟨c.toNat % 16, by omega⟩).1
    show unL (37 :: hx g (c.toNat / 16) :: hx g (c.toNat % 16) :: allL g l) = _
    rw [unL_three c _ _ _ h1 h2, unL_all g l]; rfl
theorem allL_ne (g : Bool) (l : List UInt8) (h : l ≠ []) : allL g l ≠ [] := by
  cases l with
  | nil => exact absurd rfl h
  | cons c l => unfold allL; simp
theorem all_one (g : Bool) (t : List UInt8) (h : fitsL t = true) : prsL ((47 :: allL g t) ++ [47]) = some (t, []) := by
  rw [List.cons_append, prs_two _ _ (allL_47 g t)]
  unfold finO
  rw [txtL_of _ _ (unL_all g t) h]; rfl
theorem all_two (g : Bool) (t : List UInt8) (h : fitsL t = true) : prsL ((47 :: allL g t) ++ (47 :: allL g t)) = some (t, t) := by
  rw [List.cons_append, prs_two _ _ (allL_47 g t)]
  unfold finO
  rw [txtL_of _ _ (unL_all g t) h, Option.bind_some, if_neg (allL_ne g t (fits_ne t h))]; rfl

end Go.Proofs.YtjgialebelndmaaDoor.PH
