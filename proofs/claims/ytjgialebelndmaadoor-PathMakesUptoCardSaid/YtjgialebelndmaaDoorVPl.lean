/- The document's Valid, Fits, hex, Text in plain lists. -/
import Derived.Test.YtjgialebelndmaaDoorRPl
import Derived.Test.YtjgialebelndmaaDoorPGx3
import Derived.Test.YtjgialebelndmaaDoorTxt
namespace Go.Proofs.YtjgialebelndmaaDoor.PG
open Go.RowKit Go.Proofs.YtjgialebelndmaaDoorW.PrintWords Go.Proofs.YtjgialebelndmaaDoorW.PrintLast Go.Proofs.YtjgialebelndmaaDoorW.PrintMore
open Go.Shelf
set_option linter.unusedVariables false
set_option linter.unusedSimpArgs false
set_option maxHeartbeats 4000000
set_option maxRecDepth 100000

open Go.Proofs Go.Lib Go.Proofs.YtjgialebelndmaaDoor.PF
theorem Rune_at (x : ByteArray) (hx : 0 < x.size) (k : Nat) (hk : 20 ≤ k) : calepinref01_Rune.f k x = some (ru (rn x.data.toList, sz x.data.toList)) := at_rounds (calepinref01_Rune.mono x) hk (Rune_is x hx)
theorem Valid_is : ∀ (n : Nat) (x : ByteArray) (k : Nat), x.size ≤ n → n + 21 ≤ k → calepinref01_Valid.l0 k x = some (vld x.data.toList)
  | n, x, 0, _, hk => by omega
  | n, x, k + 1, hn, hk => by
    by_cases h0 : x.size = 0
    · have hl : x.data.toList = [] := List.eq_nil_of_length_eq_zero h0
      unfold calepinref01_Valid.l0
      rw [if_neg (by omega), hl]; rfl
    · have hne : x.data.toList ≠ [] := fun e => h0 (by show x.data.toList.length = 0; rw [e]; rfl)
      have hs1 := sz_pos x.data.toList
      have hs2 := sz_le x.data.toList hne
      have hxl : x.data.toList.length = x.size := rfl
      obtain ⟨n, rfl⟩ : ∃ m, n = m + 1 := ⟨n - 1, by omega⟩
      have ih := Valid_is n (x.extract (sz x.data.toList) x.size) k (by rw [ByteArray.size_extract]; omega) (by omega)
      rw [ext_drop] at ih
      unfold calepinref01_Valid.l0
      rw [if_pos (by omega), Rune_at x (by omega) k (by omega), Option.bind_some, vld_cons _ hne]
      by_cases hb : rn x.data.toList = 65533 ∧ sz x.data.toList = 1
      · have e1 : ru (rn x.data.toList, sz x.data.toList) = (0, 0) := by unfold ru; rw [if_pos hb]
        have e2 : bad x.data.toList = true := by unfold bad; exact decide_eq_true hb
        rw [e1, e2]; rfl
      · have e1 : ru (rn x.data.toList, sz x.data.toList) = ((rn x.data.toList : Int), (sz x.data.toList : Int)) := by unfold ru; rw [if_neg hb]
        have e2 : bad x.data.toList = false := by unfold bad; exact decide_eq_false hb
        rw [e1, e2]
        simp only [Bool.not_false, Bool.true_and, Int.toNat_natCast]
        rw [if_neg (by omega)]
        have hc : (if 0 ≤ ((sz x.data.toList : Nat) : Int) then (if ((sz x.data.toList : Nat) : Int) ≤ (x.size : Int) then calepinref01_Valid.l0 k (x.extract (sz x.data.toList) x.size) else none) else none) = some (vld (x.data.toList.drop (sz x.data.toList))) := by
          rw [if_pos (by omega), if_pos (by omega), ih]
        simp only [hc]
        generalize vld (x.data.toList.drop (sz x.data.toList)) = v
        generalize rn x.data.toList = r
        unfold ctl
        by_cases c1 : r = 127
        · subst c1; rfl
        by_cases c2 : r < 32
        · rw [if_neg (by omega), if_pos (by omega), decide_eq_true c2, decide_eq_false c1]
          by_cases c3 : r = 9
          · subst c3; simp
          by_cases c4 : r = 10
          · subst c4; simp
          by_cases c5 : r = 13
          · subst c5; simp
          rw [if_neg (by omega), if_neg (by omega), if_neg (by omega), decide_eq_true c3, decide_eq_true c4, decide_eq_true c5]; rfl
        · rw [if_neg (by omega), if_neg (by omega), decide_eq_false c2, decide_eq_false c1]; simp
theorem Fits_is (x : ByteArray) (k : Nat) (hk : x.size + 21 ≤ k) : calepinref06_Fits.f k x = some (fitsL x.data.toList) := by
  unfold calepinref06_Fits.f
  rw [show calepinref01_Valid.f k x = some (vld x.data.toList) from Valid_is x.size x k (Nat.le_refl _) hk, Option.bind_some]
  have ht : x.toList = x.data.toList := Lib.toList_data x
  have hs : x.size = x.data.toList.length := rfl
  rw [ht, hs]
  unfold fitsL
  generalize x.data.toList = l
  cases vld l with
  | false => rfl
  | true =>
    rw [if_pos rfl]
    by_cases c1 : 1 ≤ l.length
    · rw [if_pos (by omega), decide_eq_true c1]
      by_cases c2 : l.length ≤ 64
      · rw [if_pos (by omega), decide_eq_true c2]
        by_cases c3 : l = [46]
        · subst c3; rfl
        · rw [if_neg c3, decide_eq_true c3]
          by_cases c4 : l = [46, 46]
          · subst c4; rfl
          · rw [decide_eq_true c4, show (l != [46, 46]) = true from bne_iff_ne.2 c4]; rfl
      · rw [if_neg (by omega), decide_eq_false c2]; simp
    · rw [if_neg (by omega), decide_eq_false c1]; simp
def hexI (d : Int) : Int := if d < 0 then 16 else d
theorem hex_all : ∀ X : Fin 256, calepinref06_hex.f 5 ((X.val : Nat) : Int) = some (hexI (dg (UInt8.ofNat X.val))) := by decide +kernel
theorem hex_is (c : UInt8) (k : Nat) (hk : 5 ≤ k) : calepinref06_hex.f k (c.toNat : Int) = some (hexI (dg c)) := by
  refine at_rounds (calepinref06_hex.mono _) hk ?_
  have := hex_all ⟨c.toNat, c.toNat_lt⟩
  simpa using this
theorem bareG_all : ∀ X : Fin 256, calepinref06_bare.f ((X.val : Nat) : Int) = some (pl (UInt8.ofNat X.val)) := by decide +kernel
theorem bareG_is (c : UInt8) : calepinref06_bare.f (c.toNat : Int) = some (pl c) := by
  have := bareG_all ⟨c.toNat, c.toNat_lt⟩
  simpa using this
theorem join_all : ∀ X Y : Fin 16, wrap64 (wrap64 (16 * ((X.val : Nat) : Int)) + ((Y.val : Nat) : Int)) % 256 = ((UInt8.ofNat (X.val * 16 + Y.val)).toNat : Int) := by decide +kernel
def nums8 (l : List UInt8) : List Int := l.map fun c => (c.toNat : Int)
theorem str_nums (l : List UInt8) : strOfNums (nums8 l) = ⟨l.toArray⟩ := by
  apply ByteArray.ext
  apply Array.toList_inj.1
  show (strOfNums (nums8 l)).data.toList = l
  rw [strOfNums_data, nums8, List.map_map]
  conv => rhs; rw [← List.map_id l]
  refine List.map_congr_left fun c _ => ?_
  show UInt8.ofNat ((c.toNat : Int)).toNat = c
  rw [Int.toNat_natCast]; simp
def txR (acc : List UInt8) : Option (List UInt8) → ByteArray × Bool
  | none => (⟨#[]⟩, false)
  | some r => (⟨(acc ++ r).toArray⟩, fitsL (acc ++ r))
theorem txR_map (acc : List UInt8) (c : UInt8) (o : Option (List UInt8)) : txR (acc ++ [c]) o = txR acc (o.map (c :: ·)) := by
  cases o with
  | none => rfl
  | some r => simp [txR]
theorem wrap_small (i m : Nat) (h : i + m ≤ 4294967296) : wrap64 ((i : Int) + (m : Int)) = ((i + m : Nat) : Int) := by unfold wrap64; omega
theorem Text_loop (x : ByteArray) (hx : x.size ≤ 1073741824) : ∀ (n i : Nat) (acc : List UInt8) (k : Nat), i + n = x.size → acc.length + n ≤ x.size → 2 * n + x.size + 30 ≤ k →
    calepinref06_Text.l0 k x (nums8 acc) (i : Int) = some (txR acc (unL (x.data.toList.drop i)))
  | n, i, acc, 0, _, _, hk => by omega
  | n, i, acc, k + 1, hi, ha, hk => by
    have hxl : x.data.toList.length = x.size := rfl
    have hw (m : Nat) (hm : m ≤ 10) : wrap64 ((i : Int) + (m : Int)) = ((i + m : Nat) : Int) := by unfold wrap64; omega
    conv => lhs; unfold calepinref06_Text.l0
    rw [show (i : Int) + 2 = (i : Int) + ((2 : Nat) : Int) from rfl, show (i : Int) + 1 = (i : Int) + ((1 : Nat) : Int) from rfl, hw 2 (by decide), hw 1 (by decide)]
    by_cases h0 : i < x.size
    · obtain ⟨n, rfl⟩ : ∃ m, n = m + 1 := ⟨n - 1, by omega⟩
      have hil : i < x.data.toList.length := h0
      rw [if_pos (by omega), if_pos (by omega), bt_is x i hil, List.drop_eq_getElem_cons hil]
      obtain ⟨c, hc⟩ : ∃ c, c = x.data.toList[i] := ⟨_, rfl⟩
      rw [← hc]
      have hacc : (nums8 acc).length = acc.length := by simp [nums8]
      by_cases c37 : c = 37
      · subst c37
        rw [if_pos (show ((37 : UInt8).toNat : Int) = 37 from rfl)]
        by_cases h2 : i + 2 < x.size
        · have h1l : i + 1 < x.data.toList.length := by omega
          have h2l : i + 2 < x.data.toList.length := by omega
          obtain ⟨a, ha1⟩ : ∃ a, a = x.data.toList[i + 1] := ⟨_, rfl⟩
          obtain ⟨b, hb1⟩ : ∃ b, b = x.data.toList[i + 2] := ⟨_, rfl⟩
          have hd2 : x.data.toList.drop (i + 1) = a :: b :: x.data.toList.drop (i + 3) := by
            rw [List.drop_eq_getElem_cons h1l, ← ha1]
            congr 1
            rw [hb1]
            exact List.drop_eq_getElem_cons h2l
          have ba : bt x ((i + 1 : Nat) : Int) = (a.toNat : Int) := by rw [ha1]; exact bt_is x (i + 1) h1l
          have bb : bt x ((i + 2 : Nat) : Int) = (b.toNat : Int) := by rw [hb1]; exact bt_is x (i + 2) h2l
          rw [if_neg (by omega), if_pos (by omega), if_pos (by omega), ba, hd2]
          rw [hex_is a k (by omega), Option.bind_some, unL_pct]
          obtain ⟨k, rfl⟩ : ∃ m, k = m + 1 := ⟨k - 1, by omega⟩
          have hj (b' : Bool) : calepinref06_Text.j1 (k + 1) x (nums8 acc) (i : Int) b' = if b' = true then some (⟨#[]⟩, false) else (if 0 ≤ wrap64 ((i : Int) + 1) then (if wrap64 ((i : Int) + 1) < (x.size : Int) then ((calepinref06_hex.f k (bt x (wrap64 ((i : Int) + 1)))).bind fun t107 => (if 0 ≤ wrap64 ((i : Int) + 2) then (if wrap64 ((i : Int) + 2) < (x.size : Int) then ((calepinref06_hex.f k (bt x (wrap64 ((i : Int) + 2)))).bind fun t108 => (if (nums8 acc).length < 140737488355328 then calepinref06_Text.l0 k x (nums8 acc ++ [(wrap64 ((wrap64 (16 * t107)) + t108)) % 256]) (wrap64 ((wrap64 ((i : Int) + 2)) + 1)) else none)) else none) else none)) else none) else none) := rfl
          rcases dg_cases a with ha0 | ⟨ka, hka, ha0⟩
          · rw [ha0, if_pos (show hexI (-1) > 15 by decide), if_pos (Or.inl (by decide))]
            rw [hj, if_pos rfl]; rfl
          · have e1 : hexI (ka : Int) = (ka : Int) := by unfold hexI; rw [if_neg (by omega)]
            rw [ha0, e1, if_neg (by omega), if_pos (by omega), if_pos (by omega), bb, hex_is b (k + 1) (by omega), Option.bind_some]
            rcases dg_cases b with hb0 | ⟨kb, hkb, hb0⟩
            · rw [hb0, decide_eq_true (show hexI (-1) > 15 by decide), if_pos (Or.inr (by decide)), hj, if_pos rfl]; rfl
            · have e2 : hexI (kb : Int) = (kb : Int) := by unfold hexI; rw [if_neg (by omega)]
              obtain ⟨n, rfl⟩ : ∃ m, n = m + 2 := ⟨n - 2, by omega⟩
              have z1 : ¬ (hexI (kb : Int) > 15) := by rw [e2]; omega
              have z2 : ¬ ((ka : Int) < 0 ∨ (kb : Int) < 0) := by omega
              have z3 : (0 : Int) ≤ ((i + 1 : Nat) : Int) ∧ ((i + 1 : Nat) : Int) < (x.size : Int) := by omega
              have z4 : (0 : Int) ≤ ((i + 2 : Nat) : Int) ∧ ((i + 2 : Nat) : Int) < (x.size : Int) := by omega
              have z5 : acc.length < 140737488355328 := by omega
              have z8 : i + 2 + 1 ≤ 4294967296 := by omega
              have z9 : 5 ≤ k := by omega
              have w1 : wrap64 ((i : Int) + 1) = ((i + 1 : Nat) : Int) := hw 1 (by decide)
              have w2 : wrap64 ((i : Int) + 2) = ((i + 2 : Nat) : Int) := hw 2 (by decide)
              have w3 : wrap64 (((i + 2 : Nat) : Int) + 1) = ((i + 3 : Nat) : Int) := wrap_small (i + 2) 1 z8
              have w4 : wrap64 (wrap64 (16 * (ka : Int)) + (kb : Int)) % 256 = ((UInt8.ofNat (ka * 16 + kb)).toNat : Int) := join_all ⟨ka, hka⟩ ⟨kb, hkb⟩
              have z6 := hex_is a k z9
              have z7 := hex_is b k z9
              rw [ha0, e1] at z6
              rw [hb0, e2] at z7
              have hres : calepinref06_Text.j1 (k + 1) x (nums8 acc) (i : Int) (decide (hexI (kb : Int) > 15)) = calepinref06_Text.l0 k x (nums8 acc ++ [((UInt8.ofNat (ka * 16 + kb)).toNat : Int)]) ((i + 3 : Nat) : Int) := by
                rw [decide_eq_false z1, hj, if_neg Bool.false_ne_true, w1, if_pos z3.1, if_pos z3.2, ba, z6, Option.bind_some, w2, if_pos z4.1, if_pos z4.2, bb, z7, Option.bind_some, hacc, if_pos z5, w3, w4]
              rw [hb0, hres, if_neg z2, Int.toNat_natCast, Int.toNat_natCast]
              clear hres z6 z7 hj w1 w2 w3 w4 ba bb hd2
              generalize UInt8.ofNat (ka * 16 + kb) = cc
              rw [show nums8 acc ++ [(cc.toNat : Int)] = nums8 (acc ++ [cc]) by simp [nums8]]
              rw [Text_loop x hx n (i + 3) (acc ++ [cc]) k (by omega) (by rw [List.length_append, List.length_singleton]; omega) (by omega), txR_map]
        · have hsh : (x.data.toList.drop (i + 1)).length < 2 := by rw [List.length_drop]; omega
          rw [if_pos (by omega), unL_short _ hsh]
          obtain ⟨k, rfl⟩ : ∃ m, k = m + 1 := ⟨k - 1, by omega⟩
          rfl
      · have hne : ¬ ((c.toNat : Int) = 37) := fun h => c37 (UInt8.toNat_inj.1 (by show c.toNat = 37; omega))
        rw [if_neg hne, bareG_is, Option.bind_some, unL_plain c _ c37]
        cases hp : pl c with
        | false => rfl
        | true =>
          rw [if_pos rfl, if_pos rfl, hacc, if_pos (by omega), show nums8 acc ++ [(c.toNat : Int)] = nums8 (acc ++ [c]) by simp [nums8]]
          rw [Text_loop x hx n (i + 1) (acc ++ [c]) k (by omega) (by rw [List.length_append, List.length_singleton]; omega) (by omega), txR_map]
    · have hd : x.data.toList.drop i = [] := List.drop_of_length_le (by omega)
      rw [if_neg (by omega), hd, str_nums, Fits_is _ k (by show acc.length + 21 ≤ k; omega), Option.bind_some]
      rw [show unL ([] : List UInt8) = some [] from rfl, show txR acc (some []) = (⟨acc.toArray⟩, fitsL acc) by simp [txR]]

end Go.Proofs.YtjgialebelndmaaDoor.PG
