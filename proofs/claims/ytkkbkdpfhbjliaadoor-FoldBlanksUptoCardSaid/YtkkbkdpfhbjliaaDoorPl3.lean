/- The document's Good, Size and Fold in plain lists. -/
import Derived.Test.YtkkbkdpfhbjliaaDoorPFx4
import Derived.Test.YtkkbkdpfhbjliaaDoorPl2
namespace Go.Proofs.YtkkbkdpfhbjliaaDoor.PF
open Go.RowKit Go.Proofs.YtkkbkdpfhbjliaaDoorW.PrintWords Go.Proofs.YtkkbkdpfhbjliaaDoorW.PrintLast Go.Proofs.YtkkbkdpfhbjliaaDoorW.PrintMore
set_option linter.unusedVariables false
set_option linter.unusedSimpArgs false
set_option maxHeartbeats 4000000
set_option maxRecDepth 100000

open Go.Proofs Go.Lib
theorem good_scan (x : ByteArray) (hx : x.size ≤ 1073741824) : ∀ (n i k : Nat), i + n = x.size → n < k → calepinref02_Good.l0 k x (i : Int) = some (!(x.data.toList.drop i).any fun c => c == 13 || c == 10)
  | _, _, 0, _, hk => by omega
  | 0, i, k + 1, hn, hk => by
    have hd : x.data.toList.drop i = [] := List.drop_of_length_le (by show x.size ≤ i; omega)
    unfold calepinref02_Good.l0
    rw [if_neg (by omega), hd]; rfl
  | n + 1, i, k + 1, hn, hk => by
    have hi : i < x.data.toList.length := by show i < x.size; omega
    have w1 : wrap64 ((i : Int) + 1) = ((i + 1 : Nat) : Int) := by unfold wrap64; omega
    unfold calepinref02_Good.l0
    rw [if_pos (by omega), if_pos (by omega), bt_is x i hi, List.drop_eq_getElem_cons hi, List.any_cons, w1]
    by_cases c1 : x.data.toList[i] = 13
    · rw [if_pos (by rw [c1]; rfl), c1]; rfl
    · rw [if_neg (ne_nat 13 13 rfl (by decide) c1)]
      by_cases c2 : x.data.toList[i] = 10
      · rw [if_pos (by rw [c2]; rfl), c2]; rfl
      · rw [if_neg (ne_nat 10 10 rfl (by decide) c2), good_scan x hx n (i + 1) k (by omega) (by omega)]
        have e1 : (x.data.toList[i] == 13) = false := by simpa using c1
        have e2 : (x.data.toList[i] == 10) = false := by simpa using c2
        rw [e1, e2]; rfl
theorem RefGood_is (x : ByteArray) (hx : x.size ≤ 1073741824) : ∃ k, calepinref02_Good.f k x = some (good x.data.toList) := by
  refine ⟨x.size + 2, ?_⟩
  have hs := good_scan x hx x.size 0 (x.size + 1) (by omega) (by omega)
  have hbt := fun (h : 0 < x.data.toList.length) => bt_is x 0 h
  have hj : ∀ b, calepinref02_Good.j0 (x.size + 2) x b = if b = true then some false else calepinref02_Good.l0 (x.size + 1) x ((0 : Nat) : Int) := fun b => rfl
  unfold calepinref02_Good.f
  rw [hj, hj, hs, List.drop_zero]
  have hsz : (x.size : Int) = (x.data.toList.length : Int) := rfl
  rw [hsz]
  cases hl : x.data.toList with
  | nil => rw [if_pos (show (([] : List UInt8).length : Int) = 0 from rfl)]; rfl
  | cons b t =>
    rw [hl] at hbt
    have h0 := hbt (by simp)
    rw [if_neg (by rw [List.length_cons]; omega), if_pos (by rw [List.length_cons]; omega), show (0 : Int) = ((0 : Nat) : Int) from rfl, h0]
    simp only [List.getElem_cons_zero]
    unfold good
    by_cases c1 : b = 32
    · subst c1
      rw [if_pos (show ((32 : UInt8).toNat : Int) = 32 from rfl)]; rfl
    · rw [if_neg (ne_nat 32 32 rfl (by decide) c1)]
      have c1' : (b == 32) = false := by simpa using c1
      by_cases c2 : b = 9
      · subst c2; rfl
      · have c2' : (b == 9) = false := by simpa using c2
        have c3 : ((b.toNat : Int) == 9) = false := beq_eq_false_iff_ne.2 (ne_nat 9 9 rfl (by decide) c2)
        have hbl : blank b = false := by unfold blank; rw [c1', c2']; rfl
        rw [if_neg (by rw [c3]; exact Bool.false_ne_true)]
        simp only [hbl, Bool.not_false, Bool.true_and]
/-! ### a character's size -/
def fin (v n least : Int) : Option (Int × Int) := if v < least then (some (0, 0)) else (if v > 1114111 then (some (0, 0)) else (if v ≥ 55296 then (if v ≤ 57343 then (some (0, 0)) else (some (v, n))) else (some (v, n))))
theorem rl_step (x : ByteArray) (v n least i : Int) (k : Nat) (h1 : i < n) (h2 : i < (x.size : Int)) (h0 : 1 ≤ i) (hn : n ≤ 4) (hv : 0 ≤ v ∧ v ≤ 2097152) :
    calepinref01_Rune.l0 (k + 1) x v n least i = if bt x i < 128 then some (0, 0) else if bt x i > 191 then some (0, 0) else calepinref01_Rune.l0 k x (64 * v + bt x i - 128) n least (i + 1) := by
  have hb := bt_range x i
  conv => lhs; unfold calepinref01_Rune.l0
  have e1 : wrap64 (bt x i) = bt x i := by unfold wrap64; omega
  have e2 : wrap64 (64 * v) = 64 * v := by unfold wrap64; omega
  have e3 : wrap64 (64 * v + bt x i) = 64 * v + bt x i := by unfold wrap64; omega
  have e4 : wrap64 (64 * v + bt x i - 128) = 64 * v + bt x i - 128 := by unfold wrap64; omega
  have e5 : wrap64 (i + 1) = i + 1 := by unfold wrap64; omega
  rw [if_pos h1, if_pos (by omega), if_pos h2, e1, e2, e3, e4, e5]
theorem rl_end (x : ByteArray) (v n least : Int) (k : Nat) : calepinref01_Rune.l0 (k + 1) x v n least n = fin v n least := by
  conv => lhs; unfold calepinref01_Rune.l0
  rw [if_neg (by omega)]; rfl
def szI : Option (Int × Int) → Option Int := fun o => o.bind fun r => if r.2 > 0 then some r.2 else some 1
theorem szI_bad : szI (some (0, 0)) = some 1 := rfl
theorem rune_two (x : ByteArray) (b0 b1 : Nat) (m b2 b3 : Nat) (h0 : bt x 0 = (b0 : Int)) (h1 : 2 ≤ x.size → bt x 1 = (b1 : Int)) (hm : x.size = m) (hc : 192 ≤ b0 ∧ b0 < 224) (hb : b1 < 256) (hm0 : 1 ≤ m) :
    szI (calepinref01_Rune.f 20 x) = some ((szN m b0 b1 b2 b3 : Nat) : Int) := by
  have e1 : wrap64 (bt x 0) = (b0 : Int) := by rw [h0]; unfold wrap64; omega
  unfold calepinref01_Rune.f
  rw [e1, if_neg (by omega), if_pos (by omega), if_neg (by omega), if_pos (by omega), decide_eq_true (by omega)]
  have e2 : wrap64 ((b0 : Int) - 192) = (b0 : Int) - 192 := by unfold wrap64; omega
  show szI (calepinref01_Rune.j2 19 x (wrap64 ((b0 : Int) - 192)) 2 128) = _
  rw [e2]
  show szI (if (x.size : Int) < 2 then some (0, 0) else calepinref01_Rune.l0 18 x ((b0 : Int) - 192) 2 128 1) = _
  by_cases hs : x.size < 2
  · rw [if_pos (by omega), szI_bad]
    unfold szN decodeN
    rw [if_neg (by omega), if_neg (by omega), if_neg (by omega), if_neg (by omega)]; rfl
  · rw [if_neg (by omega), rl_step x _ 2 128 1 17 (by omega) (by omega) (by omega) (by omega) (by omega), h1 (by omega)]
    rw [show (1 : Int) + 1 = 2 from rfl, rl_end]
    unfold szN decodeN fin
    rw [if_neg (show ¬ b0 < 128 by omega)]
    by_cases c1 : b1 / 64 = 2
    · rw [if_neg (by omega), if_neg (by omega), if_pos (show b0 / 32 = 6 ∧ (1 < m ∧ b1 / 64 = 2) by omega)]
      by_cases c2 : b0 % 32 * 64 + b1 % 64 ≥ 128
      · rw [if_neg (by omega), if_neg (by omega), if_neg (by omega), if_pos c2]; rfl
      · rw [if_pos (by omega), if_neg c2]; rfl
    · rw [if_neg (show ¬ (b0 / 32 = 6 ∧ (1 < m ∧ b1 / 64 = 2)) by omega), if_neg (show ¬ (b0 / 16 = 14 ∧ (1 < m ∧ b1 / 64 = 2) ∧ (2 < m ∧ b2 / 64 = 2)) by omega), if_neg (show ¬ (b0 / 8 = 30 ∧ (1 < m ∧ b1 / 64 = 2) ∧ (2 < m ∧ b2 / 64 = 2) ∧ (3 < m ∧ b3 / 64 = 2)) by omega)]
      by_cases c2 : b1 < 128
      · rw [if_pos (by omega)]; rfl
      · rw [if_neg (by omega), if_pos (by omega)]; rfl
theorem rune_three (x : ByteArray) (b0 b1 b2 : Nat) (m b3 : Nat) (h0 : bt x 0 = (b0 : Int)) (h1 : 2 ≤ x.size → bt x 1 = (b1 : Int)) (h2 : 3 ≤ x.size → bt x 2 = (b2 : Int)) (hm : x.size = m) (hc : 224 ≤ b0 ∧ b0 < 240) (hb : b1 < 256 ∧ b2 < 256) (hm0 : 1 ≤ m) :
    szI (calepinref01_Rune.f 20 x) = some ((szN m b0 b1 b2 b3 : Nat) : Int) := by
  have e1 : wrap64 (bt x 0) = (b0 : Int) := by rw [h0]; unfold wrap64; omega
  unfold calepinref01_Rune.f
  rw [e1, if_neg (by omega), if_pos (by omega), if_neg (by omega), if_pos (by omega), decide_eq_false (by omega)]
  have e2 : wrap64 ((b0 : Int) - 224) = (b0 : Int) - 224 := by unfold wrap64; omega
  show szI (if (b0 : Int) ≥ 224 then calepinref01_Rune.j1 19 x (b0 : Int) (decide ((b0 : Int) < 240)) else calepinref01_Rune.j1 19 x (b0 : Int) false) = _
  rw [if_pos (by omega), decide_eq_true (by omega)]
  show szI (calepinref01_Rune.j2 18 x (wrap64 ((b0 : Int) - 224)) 3 2048) = _
  rw [e2]
  show szI (if (x.size : Int) < 3 then some (0, 0) else calepinref01_Rune.l0 17 x ((b0 : Int) - 224) 3 2048 1) = _
  unfold szN decodeN
  rw [if_neg (show ¬ b0 < 128 by omega), if_neg (show ¬ (b0 / 32 = 6 ∧ (1 < m ∧ b1 / 64 = 2)) by omega)]
  by_cases hs : x.size < 3
  · rw [if_pos (by omega), szI_bad, if_neg (by omega), if_neg (by omega)]; rfl
  · rw [if_neg (by omega), rl_step x _ 3 2048 1 16 (by omega) (by omega) (by omega) (by omega) (by omega), h1 (by omega)]
    by_cases c1 : b1 / 64 = 2
    · rw [if_neg (by omega), if_neg (by omega), show (1 : Int) + 1 = 2 from rfl, rl_step x _ 3 2048 2 15 (by omega) (by omega) (by omega) (by omega) (by omega), h2 (by omega)]
      by_cases c2 : b2 / 64 = 2
      · rw [if_neg (by omega), if_neg (by omega), show (2 : Int) + 1 = 3 from rfl, rl_end, if_pos (show b0 / 16 = 14 ∧ (1 < m ∧ b1 / 64 = 2) ∧ (2 < m ∧ b2 / 64 = 2) by omega)]
        unfold fin
        repeat' split
        all_goals first | rfl | (exfalso; omega)
      · rw [if_neg (show ¬ (b0 / 16 = 14 ∧ (1 < m ∧ b1 / 64 = 2) ∧ (2 < m ∧ b2 / 64 = 2)) by omega), if_neg (show ¬ (b0 / 8 = 30 ∧ (1 < m ∧ b1 / 64 = 2) ∧ (2 < m ∧ b2 / 64 = 2) ∧ (3 < m ∧ b3 / 64 = 2)) by omega)]
        by_cases c3 : b2 < 128
        · rw [if_pos (by omega)]; rfl
        · rw [if_neg (by omega), if_pos (by omega)]; rfl
    · rw [if_neg (show ¬ (b0 / 16 = 14 ∧ (1 < m ∧ b1 / 64 = 2) ∧ (2 < m ∧ b2 / 64 = 2)) by omega), if_neg (show ¬ (b0 / 8 = 30 ∧ (1 < m ∧ b1 / 64 = 2) ∧ (2 < m ∧ b2 / 64 = 2) ∧ (3 < m ∧ b3 / 64 = 2)) by omega)]
      by_cases c3 : b1 < 128
      · rw [if_pos (by omega)]; rfl
      · rw [if_neg (by omega), if_pos (by omega)]; rfl
theorem rune_four (x : ByteArray) (b0 b1 b2 b3 : Nat) (m : Nat) (h0 : bt x 0 = (b0 : Int)) (h1 : 2 ≤ x.size → bt x 1 = (b1 : Int)) (h2 : 3 ≤ x.size → bt x 2 = (b2 : Int)) (h3 : 4 ≤ x.size → bt x 3 = (b3 : Int)) (hm : x.size = m) (hc : 240 ≤ b0 ∧ b0 < 248) (hb : b1 < 256 ∧ b2 < 256 ∧ b3 < 256) (hm0 : 1 ≤ m) :
    szI (calepinref01_Rune.f 20 x) = some ((szN m b0 b1 b2 b3 : Nat) : Int) := by
  have e1 : wrap64 (bt x 0) = (b0 : Int) := by rw [h0]; unfold wrap64; omega
  unfold calepinref01_Rune.f
  rw [e1, if_neg (by omega), if_pos (by omega), if_neg (by omega), if_pos (by omega), decide_eq_false (by omega)]
  have e2 : wrap64 ((b0 : Int) - 240) = (b0 : Int) - 240 := by unfold wrap64; omega
  show szI (if (b0 : Int) ≥ 224 then calepinref01_Rune.j1 19 x (b0 : Int) (decide ((b0 : Int) < 240)) else calepinref01_Rune.j1 19 x (b0 : Int) false) = _
  rw [if_pos (by omega), decide_eq_false (by omega)]
  show szI (if (b0 : Int) ≥ 240 then (if (b0 : Int) < 248 then calepinref01_Rune.j2 18 x (wrap64 ((b0 : Int) - 240)) 4 65536 else some (0, 0)) else some (0, 0)) = _
  rw [if_pos (by omega), if_pos (by omega), e2]
  show szI (if (x.size : Int) < 4 then some (0, 0) else calepinref01_Rune.l0 17 x ((b0 : Int) - 240) 4 65536 1) = _
  unfold szN decodeN
  rw [if_neg (show ¬ b0 < 128 by omega), if_neg (show ¬ (b0 / 32 = 6 ∧ (1 < m ∧ b1 / 64 = 2)) by omega), if_neg (show ¬ (b0 / 16 = 14 ∧ (1 < m ∧ b1 / 64 = 2) ∧ (2 < m ∧ b2 / 64 = 2)) by omega)]
  by_cases hs : x.size < 4
  · rw [if_pos (by omega), szI_bad, if_neg (by omega)]; rfl
  · rw [if_neg (by omega), rl_step x _ 4 65536 1 16 (by omega) (by omega) (by omega) (by omega) (by omega), h1 (by omega)]
    by_cases c1 : b1 / 64 = 2
    · rw [if_neg (by omega), if_neg (by omega), show (1 : Int) + 1 = 2 from rfl, rl_step x _ 4 65536 2 15 (by omega) (by omega) (by omega) (by omega) (by omega), h2 (by omega)]
      by_cases c2 : b2 / 64 = 2
      · rw [if_neg (by omega), if_neg (by omega), show (2 : Int) + 1 = 3 from rfl, rl_step x _ 4 65536 3 14 (by omega) (by omega) (by omega) (by omega) (by omega), h3 (by omega)]
        by_cases c4 : b3 / 64 = 2
        · rw [if_neg (by omega), if_neg (by omega), show (3 : Int) + 1 = 4 from rfl, rl_end, if_pos (show b0 / 8 = 30 ∧ (1 < m ∧ b1 / 64 = 2) ∧ (2 < m ∧ b2 / 64 = 2) ∧ (3 < m ∧ b3 / 64 = 2) by omega)]
          unfold fin
          repeat' split
          all_goals first | rfl | (exfalso; omega)
        · rw [if_neg (show ¬ (b0 / 8 = 30 ∧ (1 < m ∧ b1 / 64 = 2) ∧ (2 < m ∧ b2 / 64 = 2) ∧ (3 < m ∧ b3 / 64 = 2)) by omega)]
          by_cases c3 : b3 < 128
          · rw [if_pos (by omega)]; rfl
          · rw [if_neg (by omega), if_pos (by omega)]; rfl
      · rw [if_neg (show ¬ (b0 / 8 = 30 ∧ (1 < m ∧ b1 / 64 = 2) ∧ (2 < m ∧ b2 / 64 = 2) ∧ (3 < m ∧ b3 / 64 = 2)) by omega)]
        by_cases c3 : b2 < 128
        · rw [if_pos (by omega)]; rfl
        · rw [if_neg (by omega), if_pos (by omega)]; rfl
    · rw [if_neg (show ¬ (b0 / 8 = 30 ∧ (1 < m ∧ b1 / 64 = 2) ∧ (2 < m ∧ b2 / 64 = 2) ∧ (3 < m ∧ b3 / 64 = 2)) by omega)]
      by_cases c3 : b1 < 128
      · rw [if_pos (by omega)]; rfl
      · rw [if_neg (by omega), if_pos (by omega)]; rfl
theorem bt_getD (x : ByteArray) (i : Nat) (h : i < x.size) : bt x (i : Int) = ((x.data.toList.getD i 0).toNat : Int) := by
  rw [bt_is x i h, List.getD_eq_getElem?_getD, List.getElem?_eq_getElem h]; rfl
theorem Size_is (x : ByteArray) : calepinref02_Size.f 20 x = some ((sz x.data.toList : Nat) : Int) := by
  show szI (calepinref01_Rune.f 20 x) = _
  unfold sz
  have hm : x.size = x.data.toList.length := rfl
  by_cases h0 : x.size = 0
  · have hl : x.data.toList = [] := List.eq_nil_of_length_eq_zero h0
    unfold calepinref01_Rune.f
    rw [if_pos (by omega), hl]
    rfl
  · have b0 := bt_getD x 0 (by omega)
    have b1 : 2 ≤ x.size → bt x 1 = ((x.data.toList.getD 1 0).toNat : Int) := fun h => bt_getD x 1 (by omega)
    have b2 : 3 ≤ x.size → bt x 2 = ((x.data.toList.getD 2 0).toNat : Int) := fun h => bt_getD x 2 (by omega)
    have b3 : 4 ≤ x.size → bt x 3 = ((x.data.toList.getD 3 0).toNat : Int) := fun h => bt_getD x 3 (by omega)
    have r0 := (x.data.toList.getD 0 0).toNat_lt
    have r1 := (x.data.toList.getD 1 0).toNat_lt
    have r2 := (x.data.toList.getD 2 0).toNat_lt
    have r3 := (x.data.toList.getD 3 0).toNat_lt
    generalize (x.data.toList.getD 0 0).toNat = n0 at *
    generalize (x.data.toList.getD 1 0).toNat = n1 at *
    generalize (x.data.toList.getD 2 0).toNat = n2 at *
    generalize (x.data.toList.getD 3 0).toNat = n3 at *
    generalize x.data.toList.length = m at *
    have e1 : wrap64 (bt x 0) = (n0 : Int) := by rw [show bt x 0 = (n0 : Int) from b0]; unfold wrap64; omega
    by_cases c1 : n0 < 128
    · unfold calepinref01_Rune.f
      rw [e1, if_neg (by omega), if_pos (by omega), if_pos (by omega)]
      unfold szN decodeN
      rw [if_pos c1]; rfl
    by_cases c2 : n0 < 192
    · unfold calepinref01_Rune.f
      rw [e1, if_neg (by omega), if_pos (by omega), if_neg (by omega), if_neg (by omega)]
      show szI (if (n0 : Int) ≥ 224 then calepinref01_Rune.j1 19 x (n0 : Int) (decide ((n0 : Int) < 240)) else calepinref01_Rune.j1 19 x (n0 : Int) false) = _
      rw [if_neg (by omega)]
      show szI (if (n0 : Int) ≥ 240 then (if (n0 : Int) < 248 then calepinref01_Rune.j2 18 x (wrap64 ((n0 : Int) - 240)) 4 65536 else some (0, 0)) else some (0, 0)) = _
      rw [if_neg (by omega)]
      unfold szN decodeN
      rw [if_neg c1, if_neg (by omega), if_neg (by omega), if_neg (by omega)]; rfl
    by_cases c3 : n0 < 224
    · exact rune_two x n0 n1 m n2 n3 b0 b1 hm (by omega) (by omega) (by omega)
    by_cases c4 : n0 < 240
    · exact rune_three x n0 n1 n2 m n3 b0 b1 b2 hm (by omega) (by omega) (by omega)
    by_cases c5 : n0 < 248
    · exact rune_four x n0 n1 n2 n3 m b0 b1 b2 b3 hm (by omega) (by omega) (by omega)
    · unfold calepinref01_Rune.f
      rw [e1, if_neg (by omega), if_pos (by omega), if_neg (by omega), if_pos (by omega), decide_eq_false (by omega)]
      show szI (if (n0 : Int) ≥ 224 then calepinref01_Rune.j1 19 x (n0 : Int) (decide ((n0 : Int) < 240)) else calepinref01_Rune.j1 19 x (n0 : Int) false) = _
      rw [if_pos (by omega), decide_eq_false (by omega)]
      show szI (if (n0 : Int) ≥ 240 then (if (n0 : Int) < 248 then calepinref01_Rune.j2 18 x (wrap64 ((n0 : Int) - 240)) 4 65536 else some (0, 0)) else some (0, 0)) = _
      rw [if_pos (by omega), if_neg (by omega)]
      unfold szN decodeN
      rw [if_neg c1, if_neg (by omega), if_neg (by omega), if_neg (by omega)]; rfl
theorem Size_at (x : ByteArray) (k : Nat) (hk : 20 ≤ k) : calepinref02_Size.f k x = some ((sz x.data.toList : Nat) : Int) := at_rounds (calepinref02_Size.mono x) hk (Size_is x)
/-! ### folding -/
theorem RefFold_loop : ∀ (n : Nat) (l out : List UInt8) (room : Nat) (first : Bool) (k : Nat), l.length ≤ n → n + 21 ≤ k → out.length + 4 * l.length ≤ 9000000000 → room ≤ 75 → (first = false ∨ 4 ≤ room) →
    calepinref02_Fold.l0 k (mkB l) (mkB out) (room : Int) first = some (mkB (out ++ (go (chars l) room first ++ [13, 10])))
  | n, l, out, room, first, 0, hn, hk, _, _, _ => by omega
  | 0, l, out, room, first, k + 1, hn, hk, ho, hr, hf => by
    have : l = [] := List.eq_nil_of_length_eq_zero (by omega)
    subst this
    unfold calepinref02_Fold.l0
    rw [if_neg (by rw [mkB_size]; simp), if_pos (by rw [mkB_size]; omega), show (⟨#[13, 10]⟩ : ByteArray) = mkB [13, 10] from rfl, mkB_app]
    rfl
  | n + 1, l, out, room, first, k + 1, hn, hk, ho, hr, hf => by
    by_cases hl : l = []
    · subst hl
      unfold calepinref02_Fold.l0
      rw [if_neg (by rw [mkB_size]; simp), if_pos (by rw [mkB_size]; simp at ho; omega), show (⟨#[13, 10]⟩ : ByteArray) = mkB [13, 10] from rfl, mkB_app]
      rfl
    · have hlen : 1 ≤ l.length := by cases l with | nil => exact absurd rfl hl | cons => simp
      have h1 := sz_pos l
      have h4 := sz_le4 l
      have h3 := sz_le l hl
      have ht : (l.take (sz l)).length = sz l := by rw [List.length_take]; omega
      have hd : (l.drop (sz l)).length = l.length - sz l := List.length_drop
      conv => lhs; unfold calepinref02_Fold.l0
      rw [if_pos (by rw [mkB_size]; omega), Size_at (mkB l) k (by omega), mkB_list, Option.bind_some, chars_cons l hl]
      conv => rhs; unfold go
      rw [ht]
      have hx1 : (mkB l).extract 0 (((sz l : Nat) : Int)).toNat = mkB (l.take (sz l)) := by rw [Int.toNat_natCast, ext_to _ _ (by rw [mkB_size]; omega), mkB_list]
      have hx2 : (mkB l).extract (((sz l : Nat) : Int)).toNat (mkB l).size = mkB (l.drop (sz l)) := by rw [Int.toNat_natCast, ext_from, mkB_list]
      rw [hx1, hx2]
      by_cases c1 : room < sz l
      · rw [if_pos (by omega)]
        cases first with
        | true => rcases hf with hf | hf
                  · cases hf
                  · omega
        | false =>
          have w : wrap64 ((74 : Int) - ((sz l : Nat) : Int)) = ((74 - sz l : Nat) : Int) := by unfold wrap64; omega
          rw [if_neg (by decide), if_pos (by rw [mkB_size]; omega), if_pos (by omega), if_pos (by rw [mkB_size]; omega), show (⟨#[13, 10, 32]⟩ : ByteArray) = mkB [13, 10, 32] from rfl, mkB_app, if_pos (by rw [mkB_size, mkB_size, List.length_append, ht]; simp only [List.length_cons, List.length_nil]; omega), mkB_app, w]
          rw [RefFold_loop n (l.drop (sz l)) _ (74 - sz l) false k (by omega) (by omega) (by rw [List.length_append, List.length_append, ht, hd]; simp only [List.length_cons, List.length_nil]; omega) (by omega) (.inl rfl), if_pos ⟨c1, rfl⟩]
          simp
      · have w : wrap64 ((room : Int) - ((sz l : Nat) : Int)) = ((room - sz l : Nat) : Int) := by unfold wrap64; omega
        rw [if_neg (by omega), if_pos (by omega), if_pos (by rw [mkB_size]; omega), if_pos (by rw [mkB_size, mkB_size, ht]; omega), mkB_app, w]
        rw [RefFold_loop n (l.drop (sz l)) _ (room - sz l) false k (by omega) (by omega) (by rw [List.length_append, ht, hd]; omega) (by omega) (.inl rfl), if_neg (fun h => c1 h.1)]
        simp
theorem RefFold_is (x : ByteArray) (hx : x.size ≤ 1073741824) : ∃ k, calepinref02_Fold.f k x = some (mkB (foldL x.data.toList)) := by
  refine ⟨x.size + 21, ?_⟩
  have h := RefFold_loop x.size x.data.toList [] 75 true (x.size + 21) (Nat.le_refl _) (Nat.le_refl _) (by show 0 + 4 * x.size ≤ _; omega) (Nat.le_refl _) (.inr (by decide))
  rw [mkB_of, List.nil_append, ← foldL_go] at h
  exact h

end Go.Proofs.YtkkbkdpfhbjliaaDoor.PF
