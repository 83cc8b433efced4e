/- The plain laws of FoldReads and FoldAgain. -/
import Derived.Test.YtkkbkdpfhbjliaaDoorPLx1
import Derived.Test.YtkkbkdpfhbjliaaDoorPLx3
namespace Go.Proofs.YtkkbkdpfhbjliaaDoor.PL
open Go.RowKit Go.Proofs.YtkkbkdpfhbjliaaDoorW.PrintWords Go.Proofs.YtkkbkdpfhbjliaaDoorW.PrintLast Go.Proofs.YtkkbkdpfhbjliaaDoorW.PrintMore
set_option linter.unusedVariables false
set_option linter.unusedSimpArgs false
set_option maxHeartbeats 4000000
set_option maxRecDepth 100000

open Go.Proofs Go.Lib Go.Proofs.YtkkbkdpfhbjliaaDoor.PF

theorem calepinlaw02_first_is : calepinlaw02_first.f = some true := by decide +kernel
theorem tail_up : ∀ (k : Nat) (l : List UInt8), l.length ≤ k → (tail l).length ≤ 4 * l.length
  | 0, l, h => by
    have : l = [] := List.eq_nil_of_length_eq_zero (by omega)
    subst this; simp [tail_nil]
  | k + 1, l, h => by
    by_cases hl : l = []
    · subst hl; simp [tail_nil]
    · rw [tail_cons l hl]
      have hp := piece_pos 74 l hl
      have hq := piece_le 74 l
      have := tail_up k (l.drop (piece 74 l)) (by rw [List.length_drop]; omega)
      rw [List.length_drop] at this
      simp only [List.length_cons, List.length_append, piece_len]
      omega
theorem foldL_up (l : List UInt8) : (foldL l).length ≤ 4 * l.length + 2 := by
  unfold foldL
  have := tail_up _ (l.drop (piece 75 l)) (Nat.le_refl _)
  have hq := piece_le 75 l
  rw [List.length_drop] at this
  simp only [List.length_append, piece_len, List.length_cons, List.length_nil]
  omega
theorem foldAll_up : ∀ ls : List (List UInt8), (foldAllL ls).length ≤ 4 * (ls.map List.length).sum + 2 * ls.length
  | [] => by simp [foldAllL]
  | l :: ls => by
    rw [foldAllL_cons, List.length_append, List.map_cons, List.sum_cons, List.length_cons]
    have := foldL_up l
    have := foldAll_up ls
    omega
theorem same_loop (f : Nat → List ByteArray → List ByteArray → Int → Int → Option Bool) (hf : ∀ k xs ys (n i : Int), f (k + 1) xs ys n i = if i < n then (if 0 ≤ i then (if i < (xs.length : Int) then (if i < (ys.length : Int) then (if (rdOf ByteArray.empty xs i).toList = (rdOf ByteArray.empty ys i).toList then f k xs ys n (wrap64 (i + 1)) else some false) else none) else none) else none) else some true)
    (xs : List ByteArray) (hx : xs.length ≤ 1073741824) : ∀ (n i k : Nat), i + n = xs.length → n < k → f k xs xs (xs.length : Int) (i : Int) = some true
  | _, _, 0, _, hk => by omega
  | 0, i, k + 1, hn, hk => by rw [hf, if_neg (by omega)]
  | n + 1, i, k + 1, hn, hk => by
    have w1 : wrap64 ((i : Int) + 1) = ((i + 1 : Nat) : Int) := by unfold wrap64; omega
    rw [hf, if_pos (by omega), if_pos (by omega), if_pos (by omega), if_pos (by omega), if_pos rfl, w1]
    exact same_loop f hf xs hx n (i + 1) k (by omega) (by omega)
theorem unf_sum : ∀ (l cur : List UInt8) (out o : List (List UInt8)), unf cur out l = some o → (o.map List.length).sum + o.length ≤ (out.map List.length).sum + out.length + cur.length + l.length
  | [], cur, out, o, h => by
    unfold unf at h
    split at h
    · injection h with h; subst h; omega
    · cases h
  | b :: l, cur, out, o, h => by
    unfold unf at h
    split at h
    · obtain ⟨o1, h1, h2⟩ := Option.bind_eq_some_iff.1 h
      have h3 := unf_sum l [] o1 o h2
      have hs := strip_len cur
      have h4 : (o1.map List.length).sum + o1.length ≤ (out.map List.length).sum + out.length + (strip cur).length + 1 := by
        cases hr : strip cur with
        | nil => rw [hr] at h1; cases h1
        | cons c t =>
          rw [hr] at h1
          unfold put at h1
          simp only at h1
          split at h1
          · cases h1
          · split at h1
            · cases hg : out.getLast? with
              | none => rw [hg] at h1; cases h1
              | some x =>
                rw [hg] at h1
                injection h1 with h1
                subst h1
                obtain ⟨q, rfl⟩ := List.getLast?_eq_some_iff.1 hg
                rw [List.dropLast_concat]
                simp only [List.map_append, List.sum_append, List.map_cons, List.map_nil, List.sum_cons, List.sum_nil, List.length_append, List.length_cons, List.length_nil]
                omega
            · injection h1 with h1
              subst h1
              simp only [List.map_append, List.sum_append, List.map_cons, List.map_nil, List.sum_cons, List.sum_nil, List.length_append, List.length_cons, List.length_nil]
              omega
      rw [List.length_cons]
      simp only [List.length_nil] at h3
      omega
    · have h3 := unf_sum l (cur ++ [b]) out o h
      rw [List.length_append, List.length_singleton] at h3
      rw [List.length_cons]; omega
theorem unfold_sum (l : List UInt8) (o : List (List UInt8)) (h : unfold l = some o) : (o.map List.length).sum + o.length ≤ l.length := by
  have := unf_sum l [] [] o h
  simp at this
  exact this
theorem unfold_good (l : List UInt8) (o : List (List UInt8)) (h : unfold l = some o) : ∀ x ∈ o, good x = true := unf_good l [] [] o h (by simp) (by simp)
theorem reads_true (a0 : ByteArray) (h : a0.size ≤ 1073741824) : ∃ k, calepinlaw02_FoldReads.f k a0 = some true := by
  have hU : fold_Unfold.f a0 = some (resU (unfold a0.data.toList)) := by unfold fold_Unfold.f; rw [if_pos h]
  have hR : calepinref02_Unfold.f a0 = some (resR (unfold a0.data.toList)) := by unfold calepinref02_Unfold.f; rw [if_pos h]
  unfold calepinlaw02_FoldReads.f
  rw [hU, hR]
  simp only [calepinlaw02_first_is, Option.bind_some, if_true]
  cases hu : unfold a0.data.toList with
  | none => exact ⟨0, rfl⟩
  | some o =>
    have hs := unfold_sum _ _ hu
    have hl : a0.data.toList.length = a0.size := rfl
    refine ⟨o.length + 2, ?_⟩
    show (if true = true then (if (0 : Int) = 0 then calepinlaw02_FoldReads.j0 (o.length + 2) (o.map mkB) (o.map mkB) (((o.map mkB).length : Int) != ((o.map mkB).length : Int)) else _) else _) = _
    rw [if_pos rfl, if_pos rfl, show (((o.map mkB).length : Int) != ((o.map mkB).length : Int)) = false from bne_eq_false_iff_eq.2 rfl]
    show calepinlaw02_FoldReads.l0 (o.length + 1) (o.map mkB) (o.map mkB) (((o.map mkB).length : Nat) : Int) ((0 : Nat) : Int) = _
    exact same_loop calepinlaw02_FoldReads.l0 (fun k xs ys n i => rfl) (o.map mkB) (by rw [List.length_map]; omega) (o.map mkB).length 0 (o.length + 1) (by omega) (by rw [List.length_map]; omega)
theorem map_list (o : List (List UInt8)) : (o.map mkB).map (·.data.toList) = o := by
  rw [List.map_map]
  conv => rhs; rw [← List.map_id o]
  rfl
theorem Fold_f (o : List (List UInt8)) (h : (foldAllL o).length ≤ 1073741824) : fold_Fold.f (o.map mkB) = some (mkB (foldAllL o)) := by
  show PF.fold_Fold.f (o.map mkB) = _
  unfold PF.fold_Fold.f
  have : foldB (o.map mkB) = foldAllL o := by unfold foldB; rw [map_list]
  rw [this, if_pos h]
theorem again_loop (o : List (List UInt8)) (hg : ∀ x ∈ o, good x = true) (hl : ∀ x ∈ o, x.length ≤ 1073741824) (ho : o.length ≤ 1073741824) : ∀ (n i k : Nat), i + n = o.length → n < k → calepinlaw02_FoldAgain.l0 k (o.map mkB) (o.map mkB) ((o.map mkB).length : Int) (i : Int) = some true
  | _, _, 0, _, hk => by omega
  | 0, i, k + 1, hn, hk => by
    unfold calepinlaw02_FoldAgain.l0
    rw [if_neg (by rw [List.length_map]; omega)]
  | n + 1, i, k + 1, hn, hk => by
    have w1 : wrap64 ((i : Int) + 1) = ((i + 1 : Nat) : Int) := by unfold wrap64; omega
    have hi : i < o.length := by omega
    have hrd : rdOf ByteArray.empty (o.map mkB) (i : Int) = mkB o[i] := by
      unfold rdOf
      rw [Int.toNat_natCast, List.getD_eq_getElem?_getD, List.getElem?_map, List.getElem?_eq_getElem hi]; rfl
    have hgd : fold_Good.f (mkB o[i]) = some true := by
      unfold fold_Good.f
      rw [if_pos (by rw [mkB_size]; exact hl _ (List.getElem_mem hi)), mkB_list, hg _ (List.getElem_mem hi)]
    unfold calepinlaw02_FoldAgain.l0
    rw [if_pos (by rw [List.length_map]; omega), if_pos (by omega), if_pos (by rw [List.length_map]; omega), if_pos (by rw [List.length_map]; omega), if_pos rfl, hrd, hgd, Option.bind_some, if_pos rfl, w1]
    exact again_loop o hg hl ho n (i + 1) k (by omega) (by omega)
theorem sum_mem : ∀ (o : List (List UInt8)), ∀ x ∈ o, x.length ≤ (o.map List.length).sum
  | a :: o, x, h => by
    rw [List.map_cons, List.sum_cons]
    rcases List.mem_cons.1 h with rfl | h
    · omega
    · have := sum_mem o x h; omega
theorem again_true (a0 : ByteArray) (h : a0.size ≤ 1073741824) : ∃ k, calepinlaw02_FoldAgain.f k a0 = some true := by
  have hU : fold_Unfold.f a0 = some (resU (unfold a0.data.toList)) := by unfold fold_Unfold.f; rw [if_pos h]
  unfold calepinlaw02_FoldAgain.f
  rw [hU]
  simp only [calepinlaw02_first_is, Option.bind_some, if_true]
  cases hu : unfold a0.data.toList with
  | none => exact ⟨1, rfl⟩
  | some o =>
    have hs := unfold_sum _ _ hu
    have hl : a0.data.toList.length = a0.size := rfl
    show ∃ k, (if (0 : Int) = 0 then calepinlaw02_FoldAgain.j0 k (o.map mkB) (decide ((a0.size : Int) > 5000)) else _) = _
    simp only [if_true]
    by_cases hbig : (a0.size : Int) > 5000
    · rw [decide_eq_true hbig]
      exact ⟨1, rfl⟩
    · rw [decide_eq_false hbig]
      have hup := foldAll_up o
      have hF : (foldAllL o).length ≤ 1073741824 := by omega
      have hgood := unfold_good _ _ hu
      refine ⟨o.length + 3, ?_⟩
      show ((fold_Fold.f (o.map mkB)).bind fun t151 => ((fold_Unfold.f t151).bind fun bt152 => (if bt152.2 = 0 then (if (bt152.1.length : Int) = ((o.map mkB).length : Int) then ((fold_Fold.f bt152.1).bind fun t156 => (calepinlaw02_FoldAgain.j1 (o.length + 2) (o.map mkB) bt152.1 (t156.toList != t151.toList))) else (calepinlaw02_FoldAgain.j1 (o.length + 2) (o.map mkB) bt152.1 true)) else (calepinlaw02_FoldAgain.j1 (o.length + 2) (o.map mkB) bt152.1 true)))) = some true
      rw [Fold_f o hF, Option.bind_some]
      have hU2 : fold_Unfold.f (mkB (foldAllL o)) = some (o.map mkB, 0) := by
        unfold fold_Unfold.f
        rw [if_pos (by rw [mkB_size]; omega), mkB_list, unfold_fold o hgood]; rfl
      rw [hU2, Option.bind_some]
      simp only [if_true]
      rw [Fold_f o hF, Option.bind_some, show ((mkB (foldAllL o)).toList != (mkB (foldAllL o)).toList) = false from bne_eq_false_iff_eq.2 rfl]
      show calepinlaw02_FoldAgain.l0 (o.length + 1) (o.map mkB) (o.map mkB) ((o.map mkB).length : Int) ((0 : Nat) : Int) = _
      exact again_loop o hgood (fun x hx => by have := sum_mem o x hx; omega) (by omega) o.length 0 (o.length + 1) (by omega) (by omega)

end Go.Proofs.YtkkbkdpfhbjliaaDoor.PL
