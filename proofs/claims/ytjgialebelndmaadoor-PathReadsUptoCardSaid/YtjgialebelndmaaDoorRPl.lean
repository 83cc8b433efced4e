/- The document's Rune in plain lists. -/
import Derived.Test.YtjgialebelndmaaDoorPGx1
import Derived.Test.YtjgialebelndmaaDoorChL
namespace Go.Proofs.YtjgialebelndmaaDoor.PG
open Go.RowKit Go.Proofs.YtjgialebelndmaaDoorW.PrintWords Go.Proofs.YtjgialebelndmaaDoorW.PrintLast Go.Proofs.YtjgialebelndmaaDoorW.PrintMore
open Go.Shelf
set_option linter.unusedVariables false
set_option linter.unusedSimpArgs false
set_option maxHeartbeats 4000000
set_option maxRecDepth 100000

open Go.Proofs Go.Lib Go.Proofs.YtjgialebelndmaaDoor.PF
/-- What the document's Rune says of a character: nothing, where there is none. -/
def ru (d : Nat × Nat) : Int × Int := if d.1 = 65533 ∧ d.2 = 1 then (0, 0) else ((d.1 : Int), (d.2 : Int))
theorem ru_bad : ru (65533, 1) = (0, 0) := rfl
theorem ru_ok2 (x y : Int) (v n : Nat) (h : ¬ (v = 65533 ∧ n = 1)) (h1 : x = (v : Int)) (h2 : y = (n : Int)) : some (x, y) = some (ru (v, n)) := by
  unfold ru
  rw [if_neg h, h1, h2]
theorem bt_is (x : ByteArray) (i : Nat) (h : i < x.data.toList.length) : bt x (i : Int) = (x.data.toList[i].toNat : Int) := by
  have h2 : i < x.size := h
  unfold bt
  rw [dif_pos (by simpa using h2)]
  rfl
/-! ### a character's size -/
def fin (v n least : Int) : Option (Int × Int) := if v < least then (some (0, 0)) else (if v > 1114111 then (some (0, 0)) else (if v ≥ 55296 then (if v ≤ 57343 then (some (0, 0)) else (some (v, n))) else (some (v, n))))
theorem rl_step (x : ByteArray) (v n least i : Int) (k : Nat) (h1 : i < n) (h2 : i < (x.size : Int)) (h0 : 1 ≤ i) (hn : n ≤ 4) (hv : 0 ≤ v ∧ v ≤ 2097152) :
    calepinref01_Rune.l0 (k + 1) x v n least i = if bt x i < 128 then some (0, 0) else if bt x i > 191 then some (0, 0) else calepinref01_Rune.l0 k x (64 * v + bt x i - 128) n least (i + 1) := by
  have hb := bt_range x i
  conv => lhs; unfold calepinref01_Rune.l0
  have e1 : wrap64 (bt x i) = bt x i := by unfold wrap64; omega
  have e2 : wrap64 (64 * v) = 64 * v := by unfold wrap64; omega
  have e3 : wrap64 (64 * v + bt x i) = 64 * v + bt x i := by unfold wrap64; omega
  have e4 : wrap64 (64 * v + bt x i - 128) = 64 * v + bt x i - 128 := by unfold wrap64; omega
  have e5 : wrap64 (i + 1) = i + 1 := by unfold wrap64; omega
  rw [if_pos h1, if_pos (by omega), if_pos h2, e1, e2, e3, e4, e5]
theorem rl_end (x : ByteArray) (v n least : Int) (k : Nat) : calepinref01_Rune.l0 (k + 1) x v n least n = fin v n least := by
  conv => lhs; unfold calepinref01_Rune.l0
  rw [if_neg (by omega)]; rfl
theorem rune_two (x : ByteArray) (b0 b1 : Nat) (m b2 b3 : Nat) (h0 : bt x 0 = (b0 : Int)) (h1 : 2 ≤ x.size → bt x 1 = (b1 : Int)) (hm : x.size = m) (hc : 192 ≤ b0 ∧ b0 < 224) (hb : b1 < 256) (hm0 : 1 ≤ m) :
    calepinref01_Rune.f 20 x = some (ru (decodeN m b0 b1 b2 b3)) := by
  have e1 : wrap64 (bt x 0) = (b0 : Int) := by rw [h0]; unfold wrap64; omega
  unfold calepinref01_Rune.f
  rw [e1, if_neg (by omega), if_pos (by omega), if_neg (by omega), if_pos (by omega), decide_eq_true (by omega)]
  have e2 : wrap64 ((b0 : Int) - 192) = (b0 : Int) - 192 := by unfold wrap64; omega
  show (calepinref01_Rune.j2 19 x (wrap64 ((b0 : Int) - 192)) 2 128) = _
  rw [e2]
  show (if (x.size : Int) < 2 then some (0, 0) else calepinref01_Rune.l0 18 x ((b0 : Int) - 192) 2 128 1) = _
  by_cases hs : x.size < 2
  · rw [if_pos (by omega)]
    unfold decodeN
    rw [if_neg (by omega), if_neg (by omega), if_neg (by omega), if_neg (by omega)]; rfl
  · rw [if_neg (by omega), rl_step x _ 2 128 1 17 (by omega) (by omega) (by omega) (by omega) (by omega), h1 (by omega)]
    rw [show (1 : Int) + 1 = 2 from rfl, rl_end]
    unfold decodeN fin
    rw [if_neg (show ¬ b0 < 128 by omega)]
    by_cases c1 : b1 / 64 = 2
    · rw [if_neg (by omega), if_neg (by omega), if_pos (show b0 / 32 = 6 ∧ (1 < m ∧ b1 / 64 = 2) by omega)]
      by_cases c2 : b0 % 32 * 64 + b1 % 64 ≥ 128
      · rw [if_neg (by omega), if_neg (by omega), if_neg (by omega), if_pos c2]; exact ru_ok2 _ _ _ _ (by omega) (by omega) (by omega)
      · rw [if_pos (by omega), if_neg c2]; rfl
    · rw [if_neg (show ¬ (b0 / 32 = 6 ∧ (1 < m ∧ b1 / 64 = 2)) by omega), if_neg (show ¬ (b0 / 16 = 14 ∧ (1 < m ∧ b1 / 64 = 2) ∧ (2 < m ∧ b2 / 64 = 2)) by omega), if_neg (show ¬ (b0 / 8 = 30 ∧ (1 < m ∧ b1 / 64 = 2) ∧ (2 < m ∧ b2 / 64 = 2) ∧ (3 < m ∧ b3 / 64 = 2)) by omega)]
      by_cases c2 : b1 < 128
      · rw [if_pos (by omega)]; rfl
      · rw [if_neg (by omega), if_pos (by omega)]; rfl
theorem rune_three (x : ByteArray) (b0 b1 b2 : Nat) (m b3 : Nat) (h0 : bt x 0 = (b0 : Int)) (h1 : 2 ≤ x.size → bt x 1 = (b1 : Int)) (h2 : 3 ≤ x.size → bt x 2 = (b2 : Int)) (hm : x.size = m) (hc : 224 ≤ b0 ∧ b0 < 240) (hb : b1 < 256 ∧ b2 < 256) (hm0 : 1 ≤ m) :
    calepinref01_Rune.f 20 x = some (ru (decodeN m b0 b1 b2 b3)) := by
  have e1 : wrap64 (bt x 0) = (b0 : Int) := by rw [h0]; unfold wrap64; omega
  unfold calepinref01_Rune.f
  rw [e1, if_neg (by omega), if_pos (by omega), if_neg (by omega), if_pos (by omega), decide_eq_false (by omega)]
  have e2 : wrap64 ((b0 : Int) - 224) = (b0 : Int) - 224 := by unfold wrap64; omega
  show (if (b0 : Int) ≥ 224 then calepinref01_Rune.j1 19 x (b0 : Int) (decide ((b0 : Int) < 240)) else calepinref01_Rune.j1 19 x (b0 : Int) false) = _
  rw [if_pos (by omega), decide_eq_true (by omega)]
  show (calepinref01_Rune.j2 18 x (wrap64 ((b0 : Int) - 224)) 3 2048) = _
  rw [e2]
  show (if (x.size : Int) < 3 then some (0, 0) else calepinref01_Rune.l0 17 x ((b0 : Int) - 224) 3 2048 1) = _
  unfold decodeN
  rw [if_neg (show ¬ b0 < 128 by omega), if_neg (show ¬ (b0 / 32 = 6 ∧ (1 < m ∧ b1 / 64 = 2)) by omega)]
  by_cases hs : x.size < 3
  · rw [if_pos (by omega), if_neg (by omega), if_neg (by omega)]; rfl
  · rw [if_neg (by omega), rl_step x _ 3 2048 1 16 (by omega) (by omega) (by omega) (by omega) (by omega), h1 (by omega)]
    by_cases c1 : b1 / 64 = 2
    · rw [if_neg (by omega), if_neg (by omega), show (1 : Int) + 1 = 2 from rfl, rl_step x _ 3 2048 2 15 (by omega) (by omega) (by omega) (by omega) (by omega), h2 (by omega)]
      by_cases c2 : b2 / 64 = 2
      · rw [if_neg (by omega), if_neg (by omega), show (2 : Int) + 1 = 3 from rfl, rl_end, if_pos (show b0 / 16 = 14 ∧ (1 < m ∧ b1 / 64 = 2) ∧ (2 < m ∧ b2 / 64 = 2) by omega)]
        unfold fin
        repeat' split
        all_goals first | rfl | (exfalso; omega) | exact ru_ok2 _ _ _ _ (by omega) (by omega) (by omega)
      · rw [if_neg (show ¬ (b0 / 16 = 14 ∧ (1 < m ∧ b1 / 64 = 2) ∧ (2 < m ∧ b2 / 64 = 2)) by omega), if_neg (show ¬ (b0 / 8 = 30 ∧ (1 < m ∧ b1 / 64 = 2) ∧ (2 < m ∧ b2 / 64 = 2) ∧ (3 < m ∧ b3 / 64 = 2)) by omega)]
        by_cases c3 : b2 < 128
        · rw [if_pos (by omega)]; rfl
        · rw [if_neg (by omega), if_pos (by omega)]; rfl
    · rw [if_neg (show ¬ (b0 / 16 = 14 ∧ (1 < m ∧ b1 / 64 = 2) ∧ (2 < m ∧ b2 / 64 = 2)) by omega), if_neg (show ¬ (b0 / 8 = 30 ∧ (1 < m ∧ b1 / 64 = 2) ∧ (2 < m ∧ b2 / 64 = 2) ∧ (3 < m ∧ b3 / 64 = 2)) by omega)]
      by_cases c3 : b1 < 128
      · rw [if_pos (by omega)]; rfl
      · rw [if_neg (by omega), if_pos (by omega)]; rfl
theorem rune_four (x : ByteArray) (b0 b1 b2 b3 : Nat) (m : Nat) (h0 : bt x 0 = (b0 : Int)) (h1 : 2 ≤ x.size → bt x 1 = (b1 : Int)) (h2 : 3 ≤ x.size → bt x 2 = (b2 : Int)) (h3 : 4 ≤ x.size → bt x 3 = (b3 : Int)) (hm : x.size = m) (hc : 240 ≤ b0 ∧ b0 < 248) (hb : b1 < 256 ∧ b2 < 256 ∧ b3 < 256) (hm0 : 1 ≤ m) :
    calepinref01_Rune.f 20 x = some (ru (decodeN m b0 b1 b2 b3)) := by
  have e1 : wrap64 (bt x 0) = (b0 : Int) := by rw [h0]; unfold wrap64; omega
  unfold calepinref01_Rune.f
  rw [e1, if_neg (by omega), if_pos (by omega), if_neg (by omega), if_pos (by omega), decide_eq_false (by omega)]
  have e2 : wrap64 ((b0 : Int) - 240) = (b0 : Int) - 240 := by unfold wrap64; omega
  show (if (b0 : Int) ≥ 224 then calepinref01_Rune.j1 19 x (b0 : Int) (decide ((b0 : Int) < 240)) else calepinref01_Rune.j1 19 x (b0 : Int) false) = _
  rw [if_pos (by omega), decide_eq_false (by omega)]
  show (if (b0 : Int) ≥ 240 then (if (b0 : Int) < 248 then calepinref01_Rune.j2 18 x (wrap64 ((b0 : Int) - 240)) 4 65536 else some (0, 0)) else some (0, 0)) = _
  rw [if_pos (by omega), if_pos (by omega), e2]
  show (if (x.size : Int) < 4 then some (0, 0) else calepinref01_Rune.l0 17 x ((b0 : Int) - 240) 4 65536 1) = _
  unfold decodeN
  rw [if_neg (show ¬ b0 < 128 by omega), if_neg (show ¬ (b0 / 32 = 6 ∧ (1 < m ∧ b1 / 64 = 2)) by omega), if_neg (show ¬ (b0 / 16 = 14 ∧ (1 < m ∧ b1 / 64 = 2) ∧ (2 < m ∧ b2 / 64 = 2)) by omega)]
  by_cases hs : x.size < 4
  · rw [if_pos (by omega), if_neg (by omega)]; rfl
  · rw [if_neg (by omega), rl_step x _ 4 65536 1 16 (by omega) (by omega) (by omega) (by omega) (by omega), h1 (by omega)]
    by_cases c1 : b1 / 64 = 2
    · rw [if_neg (by omega), if_neg (by omega), show (1 : Int) + 1 = 2 from rfl, rl_step x _ 4 65536 2 15 (by omega) (by omega) (by omega) (by omega) (by omega), h2 (by omega)]
      by_cases c2 : b2 / 64 = 2
      · rw [if_neg (by omega), if_neg (by omega), show (2 : Int) + 1 = 3 from rfl, rl_step x _ 4 65536 3 14 (by omega) (by omega) (by omega) (by omega) (by omega), h3 (by omega)]
        by_cases c4 : b3 / 64 = 2
        · rw [if_neg (by omega), if_neg (by omega), show (3 : Int) + 1 = 4 from rfl, rl_end, if_pos (show b0 / 8 = 30 ∧ (1 < m ∧ b1 / 64 = 2) ∧ (2 < m ∧ b2 / 64 = 2) ∧ (3 < m ∧ b3 / 64 = 2) by omega)]
          unfold fin
          repeat' split
          all_goals first | rfl | (exfalso; omega) | exact ru_ok2 _ _ _ _ (by omega) (by omega) (by omega)
        · rw [if_neg (show ¬ (b0 / 8 = 30 ∧ (1 < m ∧ b1 / 64 = 2) ∧ (2 < m ∧ b2 / 64 = 2) ∧ (3 < m ∧ b3 / 64 = 2)) by omega)]
          by_cases c3 : b3 < 128
          · rw [if_pos (by omega)]; rfl
          · rw [if_neg (by omega), if_pos (by omega)]; rfl
      · rw [if_neg (show ¬ (b0 / 8 = 30 ∧ (1 < m ∧ b1 / 64 = 2) ∧ (2 < m ∧ b2 / 64 = 2) ∧ (3 < m ∧ b3 / 64 = 2)) by omega)]
        by_cases c3 : b2 < 128
        · rw [if_pos (by omega)]; rfl
        · rw [if_neg (by omega), if_pos (by omega)]; rfl
    · rw [if_neg (show ¬ (b0 / 8 = 30 ∧ (1 < m ∧ b1 / 64 = 2) ∧ (2 < m ∧ b2 / 64 = 2) ∧ (3 < m ∧ b3 / 64 = 2)) by omega)]
      by_cases c3 : b1 < 128
      · rw [if_pos (by omega)]; rfl
      · rw [if_neg (by omega), if_pos (by omega)]; rfl
theorem bt_getD (x : ByteArray) (i : Nat) (h : i < x.size) : bt x (i : Int) = ((x.data.toList.getD i 0).toNat : Int) := by
  rw [bt_is x i h, List.getD_eq_getElem?_getD, List.getElem?_eq_getElem h]; rfl
theorem Rune_is (x : ByteArray) (hx : 0 < x.size) : calepinref01_Rune.f 20 x = some (ru (rn x.data.toList, sz x.data.toList)) := by
  rw [show (rn x.data.toList, sz x.data.toList) = decodeN x.data.toList.length (x.data.toList.getD 0 0).toNat (x.data.toList.getD 1 0).toNat (x.data.toList.getD 2 0).toNat (x.data.toList.getD 3 0).toNat from rfl]
  have hm : x.size = x.data.toList.length := rfl
  by_cases h0 : x.size = 0
  · have hl : x.data.toList = [] := List.eq_nil_of_length_eq_zero h0
    omega
  · have b0 := bt_getD x 0 (by omega)
    have b1 : 2 ≤ x.size → bt x 1 = ((x.data.toList.getD 1 0).toNat : Int) := fun h => bt_getD x 1 (by omega)
    have b2 : 3 ≤ x.size → bt x 2 = ((x.data.toList.getD 2 0).toNat : Int) := fun h => bt_getD x 2 (by omega)
    have b3 : 4 ≤ x.size → bt x 3 = ((x.data.toList.getD 3 0).toNat : Int) := fun h => bt_getD x 3 (by omega)
    have r0 := (x.data.toList.getD 0 0).toNat_lt
    have r1 := (x.data.toList.getD 1 0).toNat_lt
    have r2 := (x.data.toList.getD 2 0).toNat_lt
    have r3 := (x.data.toList.getD 3 0).toNat_lt
    generalize (x.data.toList.getD 0 0).toNat = n0 at *
    generalize (x.data.toList.getD 1 0).toNat = n1 at *
    generalize (x.data.toList.getD 2 0).toNat = n2 at *
    generalize (x.data.toList.getD 3 0).toNat = n3 at *
    generalize x.data.toList.length = m at *
    have e1 : wrap64 (bt x 0) = (n0 : Int) := by rw [show bt x 0 = (n0 : Int) from b0]; unfold wrap64; omega
    by_cases c1 : n0 < 128
    · unfold calepinref01_Rune.f
      rw [e1, if_neg (by omega), if_pos (by omega), if_pos (by omega)]
      unfold decodeN
      rw [if_pos c1]; exact ru_ok2 _ _ _ _ (by omega) (by omega) (by omega)
    by_cases c2 : n0 < 192
    · unfold calepinref01_Rune.f
      rw [e1, if_neg (by omega), if_pos (by omega), if_neg (by omega), if_neg (by omega)]
      show (if (n0 : Int) ≥ 224 then calepinref01_Rune.j1 19 x (n0 : Int) (decide ((n0 : Int) < 240)) else calepinref01_Rune.j1 19 x (n0 : Int) false) = _
      rw [if_neg (by omega)]
      show (if (n0 : Int) ≥ 240 then (if (n0 : Int) < 248 then calepinref01_Rune.j2 18 x (wrap64 ((n0 : Int) - 240)) 4 65536 else some (0, 0)) else some (0, 0)) = _
      rw [if_neg (by omega)]
      unfold decodeN
      rw [if_neg c1, if_neg (by omega), if_neg (by omega), if_neg (by omega)]; rfl
    by_cases c3 : n0 < 224
    · exact rune_two x n0 n1 m n2 n3 b0 b1 hm (by omega) (by omega) (by omega)
    by_cases c4 : n0 < 240
    · exact rune_three x n0 n1 n2 m n3 b0 b1 b2 hm (by omega) (by omega) (by omega)
    by_cases c5 : n0 < 248
    · exact rune_four x n0 n1 n2 n3 m b0 b1 b2 b3 hm (by omega) (by omega) (by omega)
    · unfold calepinref01_Rune.f
      rw [e1, if_neg (by omega), if_pos (by omega), if_neg (by omega), if_pos (by omega), decide_eq_false (by omega)]
      show (if (n0 : Int) ≥ 224 then calepinref01_Rune.j1 19 x (n0 : Int) (decide ((n0 : Int) < 240)) else calepinref01_Rune.j1 19 x (n0 : Int) false) = _
      rw [if_pos (by omega), decide_eq_false (by omega)]
      show (if (n0 : Int) ≥ 240 then (if (n0 : Int) < 248 then calepinref01_Rune.j2 18 x (wrap64 ((n0 : Int) - 240)) 4 65536 else some (0, 0)) else some (0, 0)) = _
      rw [if_pos (by omega), if_neg (by omega)]
      unfold decodeN
      rw [if_neg c1, if_neg (by omega), if_neg (by omega), if_neg (by omega)]; rfl

end Go.Proofs.YtjgialebelndmaaDoor.PG
