/- The law of writing. -/
import Derived.Test.YtdjdbmopckhcdaaVWa
import Derived.Test.YtdjdbmopckhcdaaPVx7
namespace Go.Proofs.Ytdjdbmopckhcdaa.PV
open Go.RowKit Go.Proofs.YtdjdbmopckhcdaaW.PrintWords Go.Proofs.YtdjdbmopckhcdaaW.PrintLast Go.Proofs.YtdjdbmopckhcdaaW.PrintMore
open Go.Proofs Go.Proofs.Ytdjdbmopckhcdaa
set_option linter.unusedVariables false
set_option linter.unusedSimpArgs false
set_option maxHeartbeats 4000000
set_option maxRecDepth 100000



theorem rput_f (x : ByteArray) (hx : x.size ≤ 1073741824) (k : Nat) (hk : x.size < k) : calepinref04_Put.f k x = some (mkB (pL x)) := by
  have h := put_loop x hx x.size 0 [] k (by omega) (by simp) hk
  unfold calepinref04_Put.f
  exact h
theorem rd_Bs (ps : List ByteArray) (i : Nat) (hi : i < ps.length) : rdOf ByteArray.empty ps (i : Int) = ps[i] := by
  unfold rdOf
  simp [List.getD, hi]
theorem rwL_snoc (row : List ByteArray) (i : Nat) (hi : i < row.length) : rwL (row.take (i + 1)) = if i = 0 then pL row[i] else rwL (row.take i) ++ 44 :: pL row[i] := by
  unfold rwL
  rw [List.take_succ_eq_append_getElem hi, List.map_append]
  split
  · rename_i h; subst h; rfl
  · exact jn_snoc 44 _ _ (by rw [ne_eq, List.map_eq_nil_iff, List.take_eq_nil_iff]; rintro (h | h) <;> simp_all)
theorem whL_snoc (fs : List (List ByteArray)) (i : Nat) (hi : i < fs.length) : whL (fs.take (i + 1)) = if i = 0 then rwL fs[i] else whL (fs.take i) ++ 59 :: rwL fs[i] := by
  unfold whL
  rw [List.take_succ_eq_append_getElem hi, List.map_append]
  split
  · rename_i h; subst h; rfl
  · exact jn_snoc 59 _ _ (by rw [ne_eq, List.map_eq_nil_iff, List.take_eq_nil_iff]; rintro (h | h) <;> simp_all)
theorem sz1 {a : Nat} (h : a ≤ 2097152) : a + 1 ≤ 9223372036854775807 := by omega
theorem sz2 {a b : Nat} (h : a ≤ 4194304) (h' : b ≤ 2097152) : a + b ≤ 9223372036854775807 := by omega
theorem rw_le (row : List ByteArray) (hs : (row.map mS).sum ≤ 1048576) : (rwL row).length ≤ 2097152 := Nat.le_trans (rw_len row) (Nat.mul_le_mul_left 2 hs)
theorem wh_le (fs : List (List ByteArray)) (hs : (fs.map mR).sum ≤ 1048576) : (whL fs).length ≤ 2097152 := Nat.le_trans (wh_len fs) (Nat.mul_le_mul_left 2 hs)
theorem pL_le (p : ByteArray) (hs : p.size ≤ 1048576) : (pL p).length ≤ 2097152 := Nat.le_trans (putL_len _) (Nat.mul_le_mul_left 2 hs)
theorem row_le (row : List ByteArray) (hs : (row.map mS).sum ≤ 1048576) : row.length ≤ 1048576 ∧ ∀ p ∈ row, p.size ≤ 1048576 := ⟨Nat.le_trans (row_small row).1 hs, fun p hp => Nat.le_trans ((row_small row).2.1 p hp) hs⟩
theorem rows_le (fs : List (List ByteArray)) (hs : (fs.map mR).sum ≤ 1048576) : fs.length ≤ 1048576 ∧ ∀ r ∈ fs, (r.map mS).sum ≤ 1048576 := ⟨Nat.le_trans (rows_small fs).1 hs, fun p hp => Nat.le_trans ((rows_small fs).2.1 p hp) hs⟩
theorem rlist_loop (row : List ByteArray) (hs : (row.map mS).sum ≤ 1048576) (B : Nat) (hB : B = 1048576) : ∀ (n i k : Nat), i + n = row.length → n + B + 1 < k →
    calepinref04_PutList.l0 k (mkB (rwL (row.take i))) row (row.length : Int) (i : Int) = some (mkB (rwL row))
  | _, _, 0, _, hk => by omega
  | 0, i, k + 1, hn, hk => by
    unfold calepinref04_PutList.l0
    rw [if_neg (by omega), List.take_of_length_le (by omega)]
  | n + 1, i, k + 1, hn, hk => by
    have hi : i < row.length := by omega
    have q1 := (row_le row hs).1
    have hp := (row_le row hs).2 _ (List.getElem_mem hi)
    have w1 : wrap64 ((i : Int) + 1) = ((i + 1 : Nat) : Int) := by unfold wrap64; omega
    have h := rlist_loop row hs B hB n (i + 1) k (by omega) (by omega)
    unfold calepinref04_PutList.l0
    rw [if_pos (by omega), if_pos (by omega), if_pos (by omega), rd_Bs row i hi, rput_f _ (by omega) k (by omega), w1]
    rw [rwL_snoc row i hi] at h
    by_cases c : i = 0
    · rw [if_pos c] at h
      have e0 : rwL (row.take i) = [] := by rw [c]; rfl
      rw [if_neg (by omega), Option.bind_some, e0, if_pos (sz2 (by rw [mkB_size]; exact Nat.zero_le _) (by rw [mkB_size]; exact pL_le _ hp)), mkB_app, List.nil_append]
      exact h
    · rw [if_neg c] at h
      have b1 : (mkB (rwL (row.take i))).size ≤ 2097152 := by rw [mkB_size]; exact rw_le _ (Nat.le_trans (sum_takeS mS i row) hs)
      have e1 : mkB (rwL (row.take i)) ++ (⟨#[44]⟩ : ByteArray) ++ mkB (pL row[i]) = mkB (rwL (row.take i) ++ 44 :: pL row[i]) := by
        show mkB (rwL (row.take i)) ++ mkB [44] ++ mkB (pL row[i]) = _
        rw [mkB_app, mkB_app, List.append_assoc]; rfl
      have e2 : (mkB (rwL (row.take i)) ++ (⟨#[44]⟩ : ByteArray)).size = (mkB (rwL (row.take i))).size + 1 := by rw [ByteArray.size_append]; rfl
      rw [if_pos (by clear b1 e1 e2 h; omega), if_pos (sz1 b1), Option.bind_some, if_pos (sz2 (by rw [e2]; exact Nat.le_trans (Nat.add_le_add_right b1 1) (by decide)) (by rw [mkB_size]; exact pL_le _ hp)), e1]
      exact h
theorem rlist_f (row : List ByteArray) (hs : (row.map mS).sum ≤ 1048576) (k : Nat) (hk : 2097160 < k) : calepinref04_PutList.f k row = some (mkB (rwL row)) := by
  have q1 := (row_le row hs).1
  have h := rlist_loop row hs 1048576 rfl row.length 0 k (by omega) (by omega)
  unfold calepinref04_PutList.f
  exact h
def pB (p : ByteArray) : ByteArray := mkB (pL p)
theorem join_f (xs : List ByteArray) (sg : UInt8) (h1 : xs.length ≤ 1048577) (h2 : (jn sg (xs.map (·.data.toList))).length ≤ 4194304) : strings_Join.f xs (⟨#[sg]⟩ : ByteArray) = some (mkB (jn sg (xs.map (·.data.toList)))) := by
  have e : joinB xs (⟨#[sg]⟩ : ByteArray) = mkB (jn sg (xs.map (·.data.toList))) := by
    unfold joinB mkB
    rw [show ((⟨#[sg]⟩ : ByteArray).data.toList) = [sg] from rfl, join_jn]
  unfold strings_Join.f
  rw [e, if_pos ⟨by omega, by rw [mkB_size]; omega⟩]
theorem vlist_loop (row : List ByteArray) (hs : (row.map mS).sum ≤ 1048576) : ∀ (n i k : Nat), i + n = row.length → n < k →
    value_PutList.l0 k ((row.take i).map pB) row (row.length : Int) (i : Int) = some (mkB (rwL row))
  | _, _, 0, _, hk => by omega
  | 0, i, k + 1, hn, hk => by
    have q1 := (row_le row hs).1
    unfold value_PutList.l0
    rw [if_neg (by omega), List.take_of_length_le (by omega)]
    have e : (row.map pB).map (·.data.toList) = row.map pL := by rw [List.map_map]; rfl
    rw [join_f _ 44 (by rw [List.length_map]; omega) (by rw [e]; exact Nat.le_trans (rw_le row hs) (by decide)), e]
    rfl
  | n + 1, i, k + 1, hn, hk => by
    have hi : i < row.length := by omega
    have q1 := (row_le row hs).1
    have hp := (row_le row hs).2 _ (List.getElem_mem hi)
    have w1 : wrap64 ((i : Int) + 1) = ((i + 1 : Nat) : Int) := by unfold wrap64; omega
    have h := vlist_loop row hs n (i + 1) k (by omega) (by omega)
    unfold value_PutList.l0
    rw [if_pos (by omega), if_pos (by omega), if_pos (by omega), rd_Bs row i hi, put_f _ (by omega), w1, Option.bind_some, if_pos (by rw [List.length_map, List.length_take]; omega)]
    rw [List.take_succ_eq_append_getElem hi, List.map_append] at h
    exact h
theorem vlist_f (row : List ByteArray) (hs : (row.map mS).sum ≤ 1048576) (k : Nat) (hk : 1048577 < k) : value_PutList.f k row = some (mkB (rwL row)) := by
  have q1 := (row_le row hs).1
  have h := vlist_loop row hs row.length 0 k (by omega) (by omega)
  unfold value_PutList.f
  exact h
def rB (r : List ByteArray) : ByteArray := mkB (rwL r)
theorem vfields_loop (fs : List (List ByteArray)) (hs : (fs.map mR).sum ≤ 1048576) (B : Nat) (hB : B = 1048577) : ∀ (n i k : Nat), i + n = fs.length → n + B + 1 < k →
    value_PutFields.l0 k ((fs.take i).map rB) fs (fs.length : Int) (i : Int) = some (mkB (whL fs))
  | _, _, 0, _, hk => by omega
  | 0, i, k + 1, hn, hk => by
    have q1 := (rows_le fs hs).1
    unfold value_PutFields.l0
    rw [if_neg (by omega), List.take_of_length_le (by omega)]
    have e : (fs.map rB).map (·.data.toList) = fs.map rwL := by rw [List.map_map]; rfl
    rw [join_f _ 59 (by rw [List.length_map]; omega) (by rw [e]; exact Nat.le_trans (wh_le fs hs) (by decide)), e]
    rfl
  | n + 1, i, k + 1, hn, hk => by
    have hi : i < fs.length := by omega
    have q1 := (rows_le fs hs).1
    have w1 : wrap64 ((i : Int) + 1) = ((i + 1 : Nat) : Int) := by unfold wrap64; omega
    have h := vfields_loop fs hs B hB n (i + 1) k (by omega) (by omega)
    unfold value_PutFields.l0
    rw [if_pos (by omega), if_pos (by omega), if_pos (by omega), rd_L5s fs i hi, vlist_f _ ((rows_le fs hs).2 _ (List.getElem_mem hi)) k (by omega), w1, Option.bind_some, if_pos (by rw [List.length_map, List.length_take]; omega)]
    rw [List.take_succ_eq_append_getElem hi, List.map_append] at h
    exact h
theorem vfields_f (fs : List (List ByteArray)) (hs : (fs.map mR).sum ≤ 1048576) (k : Nat) (hk : 2097160 < k) : value_PutFields.f k fs = some (mkB (whL fs)) := by
  have q1 := (rows_le fs hs).1
  have h := vfields_loop fs hs 1048577 rfl fs.length 0 k (by omega) (by omega)
  unfold value_PutFields.f
  exact h

end Go.Proofs.Ytdjdbmopckhcdaa.PV
