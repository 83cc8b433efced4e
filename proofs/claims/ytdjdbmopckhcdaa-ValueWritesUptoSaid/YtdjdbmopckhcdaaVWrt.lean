/- The law of writing. -/
import Derived.Test.YtdjdbmopckhcdaaVWc
import Derived.Test.YtdjdbmopckhcdaaPVx7
namespace Go.Proofs.Ytdjdbmopckhcdaa.PV
open Go.RowKit Go.Proofs.YtdjdbmopckhcdaaW.PrintWords Go.Proofs.YtdjdbmopckhcdaaW.PrintLast Go.Proofs.YtdjdbmopckhcdaaW.PrintMore
open Go.Proofs Go.Proofs.Ytdjdbmopckhcdaa
set_option linter.unusedVariables false
set_option linter.unusedSimpArgs false
set_option maxHeartbeats 4000000
set_option maxRecDepth 100000



theorem writes_loop (fs : List (List ByteArray)) (hs : (fs.map mR).sum ≤ 1048576) : ∀ (n i : Nat), i + n = fs.length →
    ∃ K, ∀ k, K ≤ k → calepinlaw04_ValueWrites.l0 k fs (mkB (whL (fs.take i))) (flag fs i) fs (fs.length : Int) (i : Int) = some true
  | 0, i, hn => by
    refine ⟨8388620, fun k hk => ?_⟩
    obtain ⟨k, rfl⟩ : ∃ j, k = (j + 1) + 1 := ⟨k - 2, by omega⟩
    obtain rfl : i = fs.length := by omega
    rw [List.take_of_length_le (Nat.le_refl _)]
    exact writes_end fs hs k (by omega)
  | n + 1, i, hn => by
    have q1 := (rows_le fs hs).1
    have hi : i < fs.length := by omega
    have hrow := (rows_le fs hs).2 _ (List.getElem_mem hi)
    obtain ⟨K, hK⟩ := writes_loop fs hs n (i + 1) (by omega)
    have hl : (whL (fs.take i)).length ≤ 2097152 := wh_le _ (Nat.le_trans (sum_take mR i fs) hs)
    have w1 : wrap64 ((i : Int) + 1) = ((i + 1 : Nat) : Int) := by unfold wrap64; omega
    have hr2 := (row_le fs[i] hrow).1
    refine ⟨K + 8388640, fun k hk => ?_⟩
    obtain ⟨j, rfl, hj⟩ : ∃ j, k = (((j + fs[i].length + 1) + 1) + 1) + 1 ∧ K + 4194305 ≤ j := ⟨k - fs[i].length - 4, by clear hl hrow hK; omega, by clear hl hrow hK; omega⟩
    have h := hK j (by clear hl hrow hK; omega)
    rw [whL_snoc fs i hi] at h
    unfold calepinlaw04_ValueWrites.l0
    rw [if_pos (by omega), if_pos (by omega), if_pos (by omega), rd_L5s fs i hi]
    by_cases c : i = 0
    · rw [if_pos c] at h
      have e0 : whL (fs.take i) = [] := by rw [c]; rfl
      rw [if_neg (by omega), e0, writes_row fs ByteArray.empty fs[i] hrow (flag fs i) (flag fs (i + 1)) (flag_snoc fs i hi) [] (Nat.zero_le _) _ _ j (by clear hl hrow hK h; omega), w1]
      exact h
    · rw [if_neg c] at h
      have e1 : mkB (whL (fs.take i)) ++ (⟨#[59]⟩ : ByteArray) = mkB (whL (fs.take i) ++ [59]) := mkB_app _ [59]
      rw [if_pos (by clear hl hrow hK h e1; omega), if_pos (sz1 (by rw [mkB_size]; exact hl)), e1, writes_row fs ByteArray.empty fs[i] hrow (flag fs i) (flag fs (i + 1)) (flag_snoc fs i hi) _ (by rw [List.length_append]; exact Nat.le_trans (Nat.add_le_add_right hl 1) (by decide)) _ _ j (by clear hl hrow hK h e1; omega), w1, List.append_assoc]
      exact h
theorem writes_pure (fs : List (List ByteArray)) (hs : (fs.map mR).sum ≤ 1048576) : ∃ k, calepinlaw04_ValueWrites.f k fs = some true := by
  obtain ⟨K, hK⟩ := writes_loop fs hs fs.length 0 (by omega)
  refine ⟨K, ?_⟩
  unfold calepinlaw04_ValueWrites.f
  rw [first_is, Option.bind_some, if_pos (by trivial)]
  have e : flag fs 0 = decide ((fs.length : Int) > 0) := by unfold flag; simp
  rw [← e]
  exact hK K (Nat.le_refl _)
theorem writes_walk (A0 : Option Addr) (c0 : Nat) (l0 : List (List ByteArray)) (w : World) (hr0 : Kd.C (Kd.slice 9 Kd.string) w A0 l0.length l0) (hc0 : l0.length ≤ c0) (hs : (l0.map mR).sum ≤ 1048576) :
    Calls Try.prog 7 #[.slice A0 l0.length c0] w fun e w' => e = .returned (.bool true) ∧ Below w.heap.size w w' := by
  obtain ⟨k, hk⟩ := writes_pure l0 hs
  exact calepinlaw04_ValueWrites.calls k A0 c0 l0 true w hr0 hc0 hk

end Go.Proofs.Ytdjdbmopckhcdaa.PV
