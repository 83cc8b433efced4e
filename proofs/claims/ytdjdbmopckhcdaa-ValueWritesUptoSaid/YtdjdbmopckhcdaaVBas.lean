/- What the law of writing wants of the law of reading. -/
import Derived.Test.YtdjdbmopckhcdaaVLaw
import Derived.Test.YtdjdbmopckhcdaaPVx3
namespace Go.Proofs.Ytdjdbmopckhcdaa.PV
open Go.RowKit Go.Proofs.YtdjdbmopckhcdaaW.PrintWords Go.Proofs.YtdjdbmopckhcdaaW.PrintLast Go.Proofs.YtdjdbmopckhcdaaW.PrintMore
open Go.Proofs Go.Proofs.Ytdjdbmopckhcdaa
set_option linter.unusedVariables false
set_option linter.unusedSimpArgs false
set_option maxHeartbeats 4000000
set_option maxRecDepth 100000


theorem spl_nil (sg : UInt8) : spl sg [] = some [[]] := by unfold spl; rfl
theorem spl_sg (sg : UInt8) (r : List UInt8) (h : sg ≠ 92) : spl sg (sg :: r) = (spl sg r).map ([] :: ·) := by
  conv => lhs; unfold spl
  rw [if_neg h, if_pos rfl]
theorem nat92 {b : UInt8} {n : Nat} (hn : n < 256) : ((b.toNat : Int) = (n : Int)) ↔ b = UInt8.ofNat n := by
  constructor
  · intro h
    have h : b.toNat = n := by omega
    rw [← h]; simp
  · rintro rfl
    simp [UInt8.toNat_ofNat', Nat.mod_eq_of_lt hn]
theorem same_loop (xs : List ByteArray) (hs : xs.length ≤ 1073741825) : ∀ (n i : Nat) (k : Nat), i + n = xs.length → n < k →
    calepinref04_Same.l0 k xs xs (xs.length : Int) (i : Int) = some true
  | _, _, 0, _, hk => by omega
  | 0, i, k + 1, hn, hk => by
    unfold calepinref04_Same.l0
    rw [if_neg (by omega)]
  | n + 1, i, k + 1, hn, hk => by
    unfold calepinref04_Same.l0
    rw [if_pos (by omega), if_pos (by omega), if_pos (by omega), if_pos (by omega), if_pos rfl]
    have w1 : wrap64 ((i : Int) + 1) = ((i + 1 : Nat) : Int) := by unfold wrap64; omega
    rw [w1]
    exact same_loop xs hs n (i + 1) k (by omega) (by omega)
theorem same_f (xs : List ByteArray) (hs : xs.length ≤ 1073741825) (k : Nat) (hk : xs.length < k) : calepinref04_Same.f k xs xs = some true := by
  unfold calepinref04_Same.f
  rw [if_pos rfl]
  exact same_loop xs hs xs.length 0 k (by omega) hk
theorem rd_L5s (ps : List (List ByteArray)) (i : Nat) (hi : i < ps.length) : rd_L5 ps (i : Int) = ps[i] := by
  unfold rd_L5
  simp [List.getD, hi]

end Go.Proofs.Ytdjdbmopckhcdaa.PV
