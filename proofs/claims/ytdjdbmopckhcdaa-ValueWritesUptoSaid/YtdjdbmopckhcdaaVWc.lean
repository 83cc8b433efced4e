/- The law of writing. -/
import Derived.Test.YtdjdbmopckhcdaaVWb
import Derived.Test.YtdjdbmopckhcdaaPVx7
namespace Go.Proofs.Ytdjdbmopckhcdaa.PV
open Go.RowKit Go.Proofs.YtdjdbmopckhcdaaW.PrintWords Go.Proofs.YtdjdbmopckhcdaaW.PrintLast Go.Proofs.YtdjdbmopckhcdaaW.PrintMore
open Go.Proofs Go.Proofs.Ytdjdbmopckhcdaa
set_option linter.unusedVariables false
set_option linter.unusedSimpArgs false
set_option maxHeartbeats 4000000
set_option maxRecDepth 100000



/-- The pieces of a row, one by one. -/
theorem pieces_loop (fs : List (List ByteArray)) (x3 : ByteArray) (x4 : Bool) (row : List ByteArray) (hs : (row.map mS).sum ≤ 1048576) (xs : List (List ByteArray)) (c j : Int) (k : Nat) (hk : 4194304 < k) : ∀ (n i : Nat), i + n = row.length →
    calepinlaw04_ValueWrites.l1 (k + n + 1) fs x3 x4 row (mkB (rwL row)) xs c j row (row.length : Int) (i : Int) = calepinlaw04_ValueWrites.l0 k fs x3 x4 xs c (wrap64 (j + 1))
  | 0, i, hn => by
    have q1 := (row_le row hs).1
    conv => lhs; unfold calepinlaw04_ValueWrites.l1
    rw [if_neg (by omega)]
    by_cases c : row = []
    · subst c
      rw [if_neg (by decide)]
    · have hlen : 0 < row.length := by cases row with | nil => exact absurd rfl c | cons a b => simp
      rw [if_pos (by omega), list_f _ (by rw [mkB_size]; exact Nat.le_trans (rw_le row hs) (by decide)), Option.bind_some, mkB_list, listI_row row c, if_pos (by trivial), same_f row (by omega) _ (by omega), Option.bind_some, if_pos (by trivial)]
  | n + 1, i, hn => by
    have hi : i < row.length := by omega
    have q1 := (row_le row hs).1
    have hp := (row_le row hs).2 _ (List.getElem_mem hi)
    have w1 : wrap64 ((i : Int) + 1) = ((i + 1 : Nat) : Int) := by unfold wrap64; omega
    have et : txtI (putL row[i].data.toList) = (row[i], 0) := by unfold txtI; rw [txt_putL]
    conv => lhs; unfold calepinlaw04_ValueWrites.l1
    rw [if_pos (by omega), if_pos (by omega), if_pos (by omega), rd_Bs row i hi, put_f _ (by omega), Option.bind_some, text_f _ (by rw [mkB_size]; exact Nat.le_trans (pL_le _ hp) (by decide)), Option.bind_some, Option.bind_some, rput_f _ (by omega) _ (by omega), Option.bind_some, mkB_list, et, if_pos (by rfl), if_pos (by rfl), if_pos (by rfl), w1]
    exact pieces_loop fs x3 x4 row hs xs c j k hk n (i + 1) (by omega)
def flag (fs : List (List ByteArray)) (i : Nat) : Bool := decide ((fs.length : Int) > 0) && (fs.take i).all fun r => decide ((r.length : Int) > 0)
theorem flag_snoc (fs : List (List ByteArray)) (i : Nat) (hi : i < fs.length) : flag fs (i + 1) = (flag fs i && decide ((fs[i].length : Int) > 0)) := by
  unfold flag
  rw [List.take_succ_eq_append_getElem hi, List.all_append, ← Bool.and_assoc]
  simp
theorem flag_all (fs : List (List ByteArray)) (h : flag fs fs.length = true) : fs ≠ [] ∧ ∀ r ∈ fs, r ≠ [] := by
  unfold flag at h
  rw [Bool.and_eq_true, List.take_of_length_le (Nat.le_refl _), List.all_eq_true] at h
  refine ⟨?_, fun r hr => ?_⟩
  · rintro rfl; simp at h
  · rintro rfl; have := h.2 _ hr; simp at this
theorem ends_loop (xs : List (List ByteArray)) (m : Nat) (hs : xs.length ≤ 1073741825) (hp : ∀ p ∈ xs, p.length ≤ m) (hm : m ≤ 1073741825) : ∀ (n i : Nat) (k : Nat), i + n = xs.length → n + m < k →
    calepinlaw04_ValueWrites.l2 k xs xs (xs.length : Int) (i : Int) = some true
  | _, _, 0, _, hk => by omega
  | 0, i, k + 1, hn, hk => by
    unfold calepinlaw04_ValueWrites.l2
    rw [if_neg (by omega)]
  | n + 1, i, k + 1, hn, hk => by
    have hi : i < xs.length := by omega
    have hl := hp _ (List.getElem_mem hi)
    unfold calepinlaw04_ValueWrites.l2
    rw [if_pos (by omega), if_pos (by omega), if_pos (by omega), if_pos (by omega), rd_L5s xs i hi, same_f _ (by omega) k (by omega), Option.bind_some, if_pos rfl]
    have w1 : wrap64 ((i : Int) + 1) = ((i + 1 : Nat) : Int) := by unfold wrap64; omega
    rw [w1]
    exact ends_loop xs m hs hp hm n (i + 1) k (by omega) (by omega)
theorem w_j1 (k : Nat) (x0 x3 x4 x6 x22 x23 x24) : calepinlaw04_ValueWrites.j1 (k + 1) x0 x3 x4 x6 x22 x23 x24 = ((calepinref04_PutList.f k x6).bind fun t288 => (if x3.size + t288.size ≤ 9223372036854775807 then (if x4 = true then (calepinlaw04_ValueWrites.j2 k x0 (x3 ++ t288) (decide ((x6.length : Int) > 0)) x6 t288 x22 x23 x24) else (calepinlaw04_ValueWrites.j2 k x0 (x3 ++ t288) false x6 t288 x22 x23 x24)) else (none))) := rfl
theorem w_j2 (k : Nat) (x0 x3 x4 x6 x7 x22 x23 x24) : calepinlaw04_ValueWrites.j2 (k + 1) x0 x3 x4 x6 x7 x22 x23 x24 = ((value_PutList.f k x6).bind fun t289 => (if t289.toList = x7.toList then (calepinlaw04_ValueWrites.l1 k x0 x3 x4 x6 x7 x22 x23 x24 x6 (x6.length : Int) 0) else (some false))) := rfl
theorem w_j4 (k : Nat) (x0 x14) : calepinlaw04_ValueWrites.j4 (k + 1) x0 x14 false = calepinlaw04_ValueWrites.l2 k x0 x14 (x14.length : Int) 0 := rfl
theorem writes_end (fs : List (List ByteArray)) (hs : (fs.map mR).sum ≤ 1048576) (k : Nat) (hk : 8388608 < k) : calepinlaw04_ValueWrites.l0 (k + 1 + 1) fs (mkB (whL fs)) (flag fs fs.length) fs (fs.length : Int) (fs.length : Int) = some true := by
  have q1 := (rows_le fs hs).1
  unfold calepinlaw04_ValueWrites.l0
  rw [if_neg (by omega), vfields_f fs hs _ (by omega), Option.bind_some, if_pos rfl]
  by_cases c : flag fs fs.length = true
  · obtain ⟨h0, h1⟩ := flag_all fs c
    rw [if_pos c, fields_f _ (by rw [mkB_size]; exact Nat.le_trans (wh_le fs hs) (by decide)), Option.bind_some, mkB_list, fieldsI_rows fs h0 h1, if_pos (by trivial)]
    have e : ((fs.length : Int) != (fs.length : Int)) = false := by simp
    show calepinlaw04_ValueWrites.j4 (k + 1) fs fs ((fs.length : Int) != (fs.length : Int)) = _
    rw [e, w_j4]
    refine ends_loop fs 1048576 (by omega) (fun p hp => (row_le p ((rows_le fs hs).2 p hp)).1) (by omega) fs.length 0 k (by omega) (by omega)
  · rw [if_neg c]
theorem writes_row (fs : List (List ByteArray)) (x : ByteArray) (row : List ByteArray) (hr : (row.map mS).sum ≤ 1048576) (b b' : Bool) (hb : b' = (b && decide ((row.length : Int) > 0))) (t : List UInt8) (htl : t.length ≤ 4194304) (c i : Int) (j : Nat) (hj : 4194304 < j) :
    calepinlaw04_ValueWrites.j1 (((j + row.length + 1) + 1) + 1) fs (mkB t) b row fs c i = calepinlaw04_ValueWrites.l0 j fs (mkB (t ++ rwL row)) b' fs c (wrap64 (i + 1)) := by
  have q1 := (row_le row hr).1
  have hend : calepinlaw04_ValueWrites.j2 ((j + row.length + 1) + 1) fs (mkB t ++ mkB (rwL row)) b' row (mkB (rwL row)) fs c i = calepinlaw04_ValueWrites.l0 j fs (mkB (t ++ rwL row)) b' fs c (wrap64 (i + 1)) := by
    rw [w_j2, vlist_f _ hr _ (by omega), Option.bind_some, if_pos rfl, mkB_app]
    exact pieces_loop fs _ b' row hr fs c i j hj row.length 0 (by omega)
  rw [w_j1, rlist_f _ hr _ (by omega), Option.bind_some, if_pos (sz2 (by rw [mkB_size]; exact htl) (by rw [mkB_size]; exact rw_le row hr))]
  by_cases c : b = true
  · rw [if_pos c, ← hend, hb, c, Bool.true_and]
  · rw [if_neg c, ← hend, hb, (by simpa using c : b = false), Bool.false_and]

end Go.Proofs.Ytdjdbmopckhcdaa.PV
