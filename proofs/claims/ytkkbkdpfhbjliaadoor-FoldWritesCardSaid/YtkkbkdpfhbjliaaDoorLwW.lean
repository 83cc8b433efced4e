/- The plain law of FoldWrites. -/
import Derived.Test.YtkkbkdpfhbjliaaDoorPLx2
import Derived.Test.YtkkbkdpfhbjliaaDoorLwA
namespace Go.Proofs.YtkkbkdpfhbjliaaDoor.PL
open Go.RowKit Go.Proofs.YtkkbkdpfhbjliaaDoorW.PrintWords Go.Proofs.YtkkbkdpfhbjliaaDoorW.PrintLast Go.Proofs.YtkkbkdpfhbjliaaDoorW.PrintMore
set_option linter.unusedVariables false
set_option linter.unusedSimpArgs false
set_option maxHeartbeats 4000000
set_option maxRecDepth 100000

open Go.Proofs Go.Lib Go.Proofs.YtkkbkdpfhbjliaaDoor.PF
theorem of_list (ls : List ByteArray) : (ls.map (·.data.toList)).map mkB = ls := by
  rw [List.map_map]
  conv => rhs; rw [← List.map_id ls]
  exact List.map_congr_left fun x _ => mkB_of x
/-- What is done behind the loop. -/
theorem writes_end (ls : List ByteArray) (hl : ls.length ≤ 20) (hs : ∀ x ∈ ls, x.size ≤ 3000) (g : Bool) (hg : g = true → ∀ x ∈ ls, good x.data.toList = true) (k : Nat) (hk : ls.length + 3 ≤ k) :
    ((fold_Fold.f ls).bind fun t139 => (if t139.toList = (mkB (foldB ls)).toList then (if g = true then ((fold_Unfold.f t139).bind fun bt140 => (if bt140.2 = 0 then (calepinlaw02_FoldWrites.j3 k ls bt140.1 ((bt140.1.length : Int) != (ls.length : Int))) else (calepinlaw02_FoldWrites.j3 k ls bt140.1 true))) else (some true)) else (some false))) = some true := by
  have hF : (foldB ls).length ≤ 1073741824 := by
    have := foldAll_up (ls.map (·.data.toList))
    have h2 : ∀ (l : List ByteArray), (∀ x ∈ l, x.size ≤ 3000) → ((l.map (·.data.toList)).map List.length).sum ≤ 3000 * l.length := by
      intro l
      induction l with
      | nil => intro _; simp
      | cons a l ih =>
        intro h
        have h1 : a.data.toList.length ≤ 3000 := h a List.mem_cons_self
        have := ih (fun x hx => h x (List.mem_cons_of_mem _ hx))
        simp only [List.map_cons, List.sum_cons, List.length_cons] at this ⊢
        omega
    have h3 := h2 ls hs
    unfold foldB
    rw [List.length_map] at this
    omega
  have hf : fold_Fold.f ls = some (mkB (foldB ls)) := by
    show PF.fold_Fold.f ls = _
    unfold PF.fold_Fold.f
    rw [if_pos hF]
  rw [hf, Option.bind_some, if_pos rfl]
  by_cases hgt : g = true
  · rw [if_pos hgt]
    have hU : fold_Unfold.f (mkB (foldB ls)) = some (ls, 0) := by
      unfold fold_Unfold.f
      rw [if_pos (by rw [mkB_size]; exact hF), mkB_list]
      unfold foldB
      rw [unfold_fold _ (fun l hl => by
        obtain ⟨x, hx, rfl⟩ := List.mem_map.1 hl
        exact hg hgt x hx)]
      show some ((ls.map (·.data.toList)).map mkB, (0 : Int)) = _
      rw [of_list]
    rw [hU, Option.bind_some]
    simp only [if_true]
    rw [show ((ls.length : Int) != (ls.length : Int)) = false from bne_eq_false_iff_eq.2 rfl]
    obtain ⟨m, rfl⟩ : ∃ m, k = m + 1 := ⟨k - 1, by omega⟩
    show calepinlaw02_FoldWrites.l1 m ls ls (ls.length : Int) ((0 : Nat) : Int) = _
    exact same_loop (fun k xs ys => calepinlaw02_FoldWrites.l1 k ys xs) (fun k xs ys n i => rfl) ls (by omega) ls.length 0 m (by omega) (by omega)
  · rw [if_neg hgt]
theorem writes_loop (ls : List ByteArray) : ∀ (n i k : Nat) (g : Bool), i + n = ls.length → i ≤ 20 → (∀ x ∈ ls.take i, x.size ≤ 3000) → (g = true → ∀ x ∈ ls.take i, good x.data.toList = true) → 3 * n + ls.length + 10 ≤ k →
    calepinlaw02_FoldWrites.l0 k ls (mkB (foldB (ls.take i))) g ls (ls.length : Int) (i : Int) = some true
  | n, i, 0, g, hn, _, _, _, hk => by omega
  | 0, i, k + 1, g, hn, h20, hs, hg, hk => by
    unfold calepinlaw02_FoldWrites.l0
    rw [List.take_of_length_le (by omega)] at hs hg ⊢
    rw [if_neg (by omega)]
    exact writes_end ls (by omega) hs g hg k (by omega)
  | n + 1, i, k + 1, g, hn, h20, hs, hg, hk => by
    have hi : i < ls.length := by omega
    have hrd : rdOf ByteArray.empty ls (i : Int) = ls[i] := by
      unfold rdOf
      rw [Int.toNat_natCast, List.getD_eq_getElem?_getD, List.getElem?_eq_getElem hi]; rfl
    obtain ⟨m, rfl⟩ : ∃ m, k = m + 2 := ⟨k - 2, by omega⟩
    unfold calepinlaw02_FoldWrites.l0
    rw [if_pos (by omega), if_pos (by omega), if_pos (by omega), hrd]
    by_cases hi20 : (i : Int) ≥ 20
    · rw [if_pos hi20]; rfl
    · rw [if_neg hi20]
      by_cases hl : ((ls[i]).size : Int) > 3000
      · rw [decide_eq_true hl]; rfl
      · rw [decide_eq_false hl]
        have hsz : (ls[i]).size ≤ 1073741824 := by omega
        have hfold : calepinref02_Fold.f ls[i] = some (mkB (foldL (ls[i]).data.toList)) := by unfold calepinref02_Fold.f; rw [if_pos hsz]
        have hgood : calepinref02_Good.f ls[i] = some (good (ls[i]).data.toList) := by unfold calepinref02_Good.f; rw [if_pos hsz]
        have hgood2 : fold_Good.f ls[i] = some (good (ls[i]).data.toList) := by unfold fold_Good.f; rw [if_pos hsz]
        have htk : ls.take (i + 1) = ls.take i ++ [ls[i]] := List.take_succ_eq_append_getElem hi
        have hB : foldB (ls.take (i + 1)) = foldB (ls.take i) ++ foldL (ls[i]).data.toList := by
          unfold foldB
          rw [htk, List.map_append, foldAllL_app]
          show _ ++ (foldL _ ++ []) = _
          rw [List.append_nil]
        have hs2 : ∀ x ∈ ls.take (i + 1), x.size ≤ 3000 := fun x hx => by
          rw [htk, List.mem_append, List.mem_singleton] at hx
          rcases hx with hx | rfl
          · exact hs x hx
          · omega
        have hlen : (foldB (ls.take (i + 1))).length ≤ 1073741824 := by
          have := foldAll_up ((ls.take (i + 1)).map (·.data.toList))
          have h2 : ∀ (l : List ByteArray), (∀ x ∈ l, x.size ≤ 3000) → ((l.map (·.data.toList)).map List.length).sum ≤ 3000 * l.length := by
            intro l
            induction l with
            | nil => intro _; simp
            | cons a l ih =>
              intro h
              have h1 : a.data.toList.length ≤ 3000 := h a List.mem_cons_self
              have := ih (fun x hx => h x (List.mem_cons_of_mem _ hx))
              simp only [List.map_cons, List.sum_cons, List.length_cons] at this ⊢
              omega
          have h3 := h2 _ hs2
          have h4 : (ls.take (i + 1)).length = i + 1 := by rw [List.length_take]; omega
          unfold foldB
          rw [List.length_map] at this
          omega
        have w1 : wrap64 ((i : Int) + 1) = ((i + 1 : Nat) : Int) := by unfold wrap64; omega
        rw [hB] at hlen
        have hj2 : ∀ g2 : Bool, (g2 = true → ∀ x ∈ ls.take (i + 1), good x.data.toList = true) → calepinlaw02_FoldWrites.j2 (m + 1) ls (mkB (foldB (ls.take (i + 1)))) g2 ls[i] ls (ls.length : Int) (i : Int) = some true := fun g2 hg2 => by
          show ((fold_Good.f ls[i]).bind fun t137 => ((calepinref02_Good.f ls[i]).bind fun t138 => (if (t137 != t138) = true then (some false) else (calepinlaw02_FoldWrites.l0 m ls (mkB (foldB (ls.take (i + 1)))) g2 ls (ls.length : Int) (wrap64 ((i : Int) + 1)))))) = _
          rw [hgood2, Option.bind_some, hgood, Option.bind_some, if_neg (by simp), w1]
          exact writes_loop ls n (i + 1) m g2 (by omega) (by omega) hs2 hg2 (by omega)
        show ((calepinref02_Fold.f ls[i]).bind fun t135 => (if (mkB (foldB (ls.take i))).size + t135.size ≤ 9223372036854775807 then (if g = true then ((calepinref02_Good.f ls[i]).bind fun t136 => (calepinlaw02_FoldWrites.j2 (m + 1) ls (mkB (foldB (ls.take i)) ++ t135) t136 ls[i] ls (ls.length : Int) (i : Int))) else (calepinlaw02_FoldWrites.j2 (m + 1) ls (mkB (foldB (ls.take i)) ++ t135) false ls[i] ls (ls.length : Int) (i : Int))) else (none))) = _
        rw [List.length_append] at hlen
        rw [hfold, Option.bind_some, if_pos (by rw [mkB_size, mkB_size]; omega), mkB_app, ← hB]
        by_cases hgt : g = true
        · rw [if_pos hgt, hgood, Option.bind_some]
          refine hj2 _ fun h x hx => ?_
          rw [htk, List.mem_append, List.mem_singleton] at hx
          rcases hx with hx | rfl
          · exact hg hgt x hx
          · exact h
        · rw [if_neg hgt]
          exact hj2 _ (fun h => by cases h)
theorem writes_true (ls : List ByteArray) : ∃ k, calepinlaw02_FoldWrites.f k ls = some true := by
  refine ⟨3 * ls.length + ls.length + 10, ?_⟩
  unfold calepinlaw02_FoldWrites.f
  simp only [calepinlaw02_first_is, Option.bind_some, if_true]
  exact writes_loop ls ls.length 0 _ true (by omega) (by omega) (by simp) (by simp) (by omega)

end Go.Proofs.YtkkbkdpfhbjliaaDoor.PL
