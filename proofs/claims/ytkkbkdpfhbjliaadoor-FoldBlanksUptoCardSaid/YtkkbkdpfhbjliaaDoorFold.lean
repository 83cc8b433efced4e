/- fold.Fold walked: rows of pieces. -/
import Derived.Test.YtkkbkdpfhbjliaaDoorPiece
namespace Go.Proofs.YtkkbkdpfhbjliaaDoor.PF
open Go.RowKit Go.Proofs.YtkkbkdpfhbjliaaDoorW.PrintWords Go.Proofs.YtkkbkdpfhbjliaaDoorW.PrintLast Go.Proofs.YtkkbkdpfhbjliaaDoorW.PrintMore
set_option linter.unusedVariables false
set_option linter.unusedSimpArgs false
set_option maxHeartbeats 4000000
set_option maxRecDepth 100000

open Go.Proofs Go.Lib
theorem byteCells_len (l : List UInt8) : (Lib.byteCells l).length = l.length := by simp [Lib.byteCells]
theorem byteCells_app (l t : List UInt8) : Lib.byteCells l ++ Lib.strCells (mkB t) = Lib.byteCells (l ++ t) := by rw [Lib.strCells_eq, mkB_list]; simp [Lib.byteCells]
theorem isB {B b : Nat} {bs : List Value} {w : World} (h : Lib.BuilderAt 44 5 B b (.pointer (some ⟨b, 0, none⟩)) bs w) : Lib.IsBuilder 44 5 B b bs w := .inr h
theorem foldAllL_cons (l : List UInt8) (ls : List (List UInt8)) : foldAllL (l :: ls) = foldL l ++ foldAllL ls := rfl
theorem foldAllL_app : ∀ (a b : List (List UInt8)), foldAllL (a ++ b) = foldAllL a ++ foldAllL b
  | [], b => rfl
  | x :: a, b => by rw [List.cons_append, foldAllL_cons, foldAllL_cons, foldAllL_app a b, List.append_assoc]
theorem piece_len (m : Nat) (l : List UInt8) : (l.take (piece m l)).length = piece m l := by rw [List.length_take]; have := piece_le m l; omega
theorem tail_len : ∀ (k : Nat) (l : List UInt8), l.length ≤ k → l.length ≤ (tail l).length
  | 0, l, h => by omega
  | k + 1, l, h => by
    by_cases hl : l = []
    · subst hl; simp
    · rw [tail_cons l hl]
      have hp := piece_pos 74 l hl
      have h1 : 1 ≤ l.length := by cases l with | nil => exact absurd rfl hl | cons => simp
      have := tail_len k (l.drop (piece 74 l)) (by rw [List.length_drop]; omega)
      rw [List.length_drop] at this
      simp only [List.length_cons, List.length_append, piece_len]
      omega
theorem foldL_len (l : List UInt8) : l.length + 2 ≤ (foldL l).length := by
  unfold foldL
  have := tail_len _ (l.drop (piece 75 l)) (Nat.le_refl _)
  rw [List.length_drop] at this
  simp only [List.length_append, piece_len, List.length_cons, List.length_nil]
  omega
theorem foldAllL_mem : ∀ (ls : List (List UInt8)) (l : List UInt8), l ∈ ls → (foldL l).length ≤ (foldAllL ls).length
  | x :: ls, l, h => by
    unfold foldAllL
    rw [List.length_append]
    rcases List.mem_cons.1 h with rfl | h
    · omega
    · have := foldAllL_mem ls l h; omega
theorem foldAllL_count : ∀ (ls : List (List UInt8)), ls.length ≤ (foldAllL ls).length
  | [] => Nat.le_refl _
  | x :: ls => by
    unfold foldAllL
    rw [List.length_append, List.length_cons]
    have := foldAllL_count ls
    have := foldL_len x
    omega
theorem builder_below {B b : Nat} {bs : List Value} {w w' : World} (h : Lib.IsBuilder 44 5 B b bs w) (hb : Below w.heap.size w w') : Lib.IsBuilder 44 5 B b bs w' := by
  have key : ∀ {p : Value}, Lib.BuilderAt 44 5 B b p bs w → Lib.BuilderAt 44 5 B b p bs w' := fun {p} h => by
    have hlt := h.lt
    obtain ⟨h1, v, h2, h3, h4⟩ := h
    exact ⟨h1, v, (hb.block b hlt).trans h2, pw_own_below h3 hb, h4⟩
  rcases h with h | h
  · exact .inl (key h)
  · exact .inr (key h)
def foldB (ls : List ByteArray) : List UInt8 := foldAllL (ls.map (·.data.toList))
theorem empty_is (x : ByteArray) (h : x.data.toList = []) : x = ⟨#[]⟩ := by
  obtain ⟨⟨l⟩⟩ := x
  have : l = [] := h
  subst this; rfl
theorem ar1 {T a f r l x P p : Nat} (h1 : T = a + f + r) (h2 : l + 2 ≤ f) (h3 : x = l) (h4 : T ≤ 1073741824) (h5 : P ≤ x) (h6 : p = P) : a + p ≤ 140737488355328 := by omega
theorem ar2 {T a f r l P : Nat} (h1 : T = a + f + r) (h2 : l + 2 ≤ f) (h4 : T ≤ 1073741824) : l - P ≤ 1073741824 := by omega
theorem ar3 {T a f r b : Nat} (h1 : T = a + f + r) (h4 : T ≤ 1073741824) (h : b + 2 = a + f) : b + 2 ≤ 140737488355328 := by omega
theorem ar4 {T a f r b : Nat} {c : Nat} (h1 : T = a + f + r) (h4 : T ≤ 1073741824) (h : b + c = a + f) (d : Nat) (hd : d ≤ c) : b + d ≤ 140737488355328 := by omega
def strSize : Value → Nat | .string s => s.size | _ => 0
set_option maxHeartbeats 16000000 in
theorem fold_calls (A0 : Option Addr) (c0 : Nat) (ls : List ByteArray) (w : World) (hr : Kd.C Kd.string w A0 ls.length ls) (hc : ls.length ≤ c0) (hs : (foldB ls).length ≤ 1073741824) (hT : Lib.Utf8Tabs 1 2 w) :
    Calls Tryd.prog 12 #[.slice A0 ls.length c0] w fun e w' => e = .returned (.string (mkB (foldB ls))) ∧ Below w.heap.size w w' := by
  have HC := Aside0.mk hr
  have HT := Aside0.mk hT
  obtain ⟨T, hTT⟩ : ∃ T, foldB ls = T := ⟨_, rfl⟩
  rw [hTT] at hs ⊢
  have HS := Aside0.mk (And.intro hTT (And.intro hs (show ls.length ≤ 1073741824 by
    have h := foldAllL_count (ls.map (·.data.toList))
    rw [List.length_map] at h
    have : (foldAllL (ls.map (·.data.toList))).length = T.length := by rw [← hTT]; rfl
    omega)))
  have HF := Aside0.mk (Lib.fresh_isBuilder 44 5 w)
  have HBf := Aside0.mk (below_alloc (Below.refl w.heap.size w) (.cells #[.pointer none, .slice none 0 0] 44))
  clear hr hT hs hTT
  go_enter Tryd.func12, Tryd.ntmps12
  go_upto_region 2 with fail
  generalize w.alloc (.cells #[.pointer none, .slice none 0 0] 44) = w1 at *
  go_wp2_with fail
  go_loopw [9] (fun v9 wr => ∃ (k : Nat) (acc : List UInt8), v9 = .int .i64 (k : Int) ∧ Aside0 (k ≤ ls.length ∧ T = acc ++ foldB (ls.drop k)) ∧ Aside0 (Lib.IsBuilder 44 5 w.heap.size w.heap.size (Lib.byteCells acc) wr) ∧ Aside0 (Below w.heap.size w wr)) (fun v9 _ => ls.length - (RowKit.intOf v9).toNat)
  case atStart => exact ⟨0, [], rfl, ⟨Nat.zero_le _, by rw [List.drop_zero, List.nil_append]; exact HS.out.1.symm⟩, HF, HBf⟩
  case round =>
    clear HF HBf
    obtain ⟨k, acc, rfl, HK, HBD, HB⟩ := hrel
    by_cases hk : k < ls.length
    · have d1 : decide (k < ls.length) = true := decide_eq_true hk
      have d1' : decide ((k : Int) < (ls.length : Int)) = true := decide_eq_true (by omega)
      obtain ⟨ad, had, hcell⟩ := Kd.at_string (Kd.C_below HC.out HB.out) (k : Int) (by omega) (by omega)
      cases had
      rw [Int.toNat_natCast] at hcell
      obtain ⟨x, hx⟩ : ∃ x, x = ls[k] := ⟨_, rfl⟩
      have hrd : rdOf (⟨#[]⟩ : ByteArray) ls (k : Int) = x := by
        unfold rdOf
        rw [Int.toNat_natCast, List.getD_eq_getElem?_getD, List.getElem?_eq_getElem hk, hx]; rfl
      rw [show (ByteArray.empty : ByteArray) = ⟨#[]⟩ from rfl, hrd] at hcell
      obtain ⟨l, hl⟩ : ∃ l, l = x.data.toList := ⟨_, rfl⟩
      have hll : x.size = l.length := by rw [hl]; rfl
      have hsplit : foldB (ls.drop k) = foldL l ++ foldB (ls.drop (k + 1)) := by
        unfold foldB
        rw [List.drop_eq_getElem_cons hk, List.map_cons, ← hx, ← hl]
        rfl
      have hT2 : T = acc ++ (foldL l ++ foldB (ls.drop (k + 1))) := by rw [← hsplit]; exact HK.out.2
      have hlen : T.length = acc.length + (foldL l).length + (foldB (ls.drop (k + 1))).length := by rw [hT2]; simp only [List.length_append]; omega
      have hfl := foldL_len l
      have HX := Aside0.mk (And.intro hl (And.intro hll (And.intro hT2 (And.intro hlen (And.intro hfl hk)))))
      obtain ⟨P, hP⟩ : ∃ P, P = piece 75 l := ⟨_, rfl⟩
      have hPl : P ≤ x.size := by rw [hP, hll]; exact piece_le 75 l
      have HPI := Aside0.mk (fun w' hT => piece_calls x 75 (by decide) (by have := HS.out.2.1; omega) w' hT)
      rw [← hl, ← hP] at HPI
      have HPP := Aside0.mk (And.intro hP hPl)
      have e1 : (P ≤ x.size) = True := eq_true hPl
      have e2 : ((P : Int) ≤ (x.size : Int)) = True := eq_true (by omega)
      have hpl : (mkB (l.take P)).size = P := by rw [mkB_size, hP, piece_len]
      have hxd : x.extract P x.size = mkB (l.drop P) := by rw [ext_from, ← hl]
      have hw : wrap64 ((k : Int) + 1) = ((k + 1 : Nat) : Int) := by have := HS.out.2.2; unfold wrap64; omega
      have HPT := Aside0.mk (show foldL l = l.take P ++ (tail (l.drop P) ++ [13, 10]) by unfold foldL; rw [← hP])
      obtain ⟨p, hp⟩ : ∃ p, p = mkB (l.take P) := ⟨_, rfl⟩
      have HPD := Aside0.mk (And.intro hp hpl)
      rw [← hp] at hpl HPI
      clear hrd hx hl hll hsplit hT2 hlen hfl hP hPl hp
      replace hk := eq_true hk
      go_wp2_with fail
      refine (HPI.out _ (tabs_below HT.out HB.out)).mono ?_
      rintro _ w2 ⟨rfl, hb⟩
      have HB2 := Aside0.mk (HB.out.trans (hb.mono HB.out.size))
      have HBD1 := Aside0.mk (builder_below HBD.out hb)
      clear hb HPI
      have HWC := Aside0.mk (Tryd.Builder_WriteString w.heap.size w.heap.size (Lib.byteCells acc) p w2 HBD1.out (by rw [byteCells_len]; exact ar1 HX.out.2.2.2.1 HX.out.2.2.2.2.1 HX.out.2.1 HS.out.2.1 HPP.out.2 (by rw [HPD.out.1]; exact HPD.out.2)) HB2.out.size)
      rw [HPD.out.1, byteCells_app, ← HPD.out.1] at HWC
      go_wp2_with fail
      refine HWC.out.mono ?_
      rintro _ w3 ⟨rfl, hbd, hb2⟩
      have HBD2 := Aside0.mk (isB hbd)
      have HB3 := Aside0.mk (HB2.out.trans hb2)
      clear hbd hb2 HWC HBD1
      go_wp2_with fail
      go_loopw [5, 6] (fun v5 v6 wr => ∃ (y q : ByteArray) (acc2 : List UInt8), v5 = .string y ∧ v6 = .string q ∧ Aside0 (acc2 ++ (tail y.data.toList ++ [13, 10]) = acc ++ foldL l ∧ y.size ≤ 1073741824) ∧ Aside0 (Lib.IsBuilder 44 5 w.heap.size w.heap.size (Lib.byteCells acc2) wr) ∧ Aside0 (Below w.heap.size w wr)) (fun v5 _ _ => strSize v5)
      case atStart => exact ⟨mkB (l.drop P), p, acc ++ l.take P, by first | rfl | rw [hxd], rfl, ⟨by rw [mkB_list, HPT.out, ← List.append_assoc acc], by rw [mkB_size, List.length_drop]; exact ar2 HX.out.2.2.2.1 HX.out.2.2.2.2.1 HS.out.2.1⟩, HBD2, HB3⟩
      case round =>
        clear HBD2 HB3 HB2 HBD HB
        obtain ⟨y, q, acc2, rfl, rfl, HA, HBD, HB⟩ := hrel
        by_cases hy : y.data.toList = []
        · have hemp : y.toList.isEmpty = true := by rw [Lib.toList_data, hy]; rfl
          have HY := Aside0.mk (show acc2 ++ [13, 10] = acc ++ foldL l by have h := HA.out.1; rw [hy, tail_nil, List.nil_append] at h; exact h)
          have HWC := Aside0.mk (Tryd.Builder_WriteString w.heap.size w.heap.size (Lib.byteCells acc2) (mkB [13, 10]) wr HBD.out (by rw [byteCells_len, mkB_size]; have h := congrArg List.length HY.out; rw [List.length_append, List.length_append] at h; exact ar3 HX.out.2.2.2.1 HS.out.2.1 h) HB.out.size)
          rw [byteCells_app, HY.out] at HWC
          clear hy
          go_wp2_with fail
          refine HWC.out.mono ?_
          rintro _ w4 ⟨rfl, hbd, hb2⟩
          have HBD2 := Aside0.mk (isB hbd)
          have HB2 := Aside0.mk (HB.out.trans hb2)
          clear hbd hb2 HWC
          go_wp2_with fail
          go_roundw
          case rel => exact ⟨k + 1, acc ++ foldL l, by first | rfl | rw [hw] | (congr 1), ⟨HX.out.2.2.2.2.2, by rw [List.append_assoc]; exact HX.out.2.2.1⟩, HBD2, HB2⟩
          case measure => first | (rw [hw]; have := HX.out.2.2.2.2.2; show ls.length - (k + 1) < ls.length - k; omega) | (have := HX.out.2.2.2.2.2; show ls.length - (k + 1) < ls.length - k; omega)
        · have hemp : y.toList.isEmpty = false := by
            rw [Lib.toList_data]
            cases h : y.data.toList with
            | nil => exact absurd h hy
            | cons _ _ => rfl
          obtain ⟨m, hm⟩ : ∃ m, m = y.data.toList := ⟨_, rfl⟩
          have hml : y.size = m.length := by rw [hm]; rfl
          have hT := HA.out.1
          rw [← hm] at hy hT
          obtain ⟨Q, hQ⟩ : ∃ Q, Q = piece 74 m := ⟨_, rfl⟩
          have hQl : Q ≤ y.size := by rw [hQ, hml]; exact piece_le 74 m
          have hQp : 1 ≤ Q := by rw [hQ]; exact piece_pos 74 m hy
          rw [tail_cons m hy, ← hQ] at hT
          have HPI := Aside0.mk (fun w' hT => piece_calls y 74 (by decide) HA.out.2 w' hT)
          rw [← hm, ← hQ] at HPI
          have e3 : (Q ≤ y.size) = True := eq_true hQl
          have e4 : ((Q : Int) ≤ (y.size : Int)) = True := eq_true (by omega)
          have hpl2 : (mkB (m.take Q)).size = Q := by rw [mkB_size, hQ, piece_len]
          have hyd : y.extract Q y.size = mkB (m.drop Q) := by rw [ext_from, ← hm]
          have hcat : (⟨#[13, 10, 32]⟩ : ByteArray) ++ mkB (m.take Q) = mkB (13 :: 10 :: 32 :: m.take Q) := by
            apply ByteArray.ext
            rw [ByteArray.data_append]
            apply Array.toList_inj.1
            rw [Array.toList_append]; rfl
          obtain ⟨p2, hp2⟩ : ∃ p2, p2 = mkB (m.take Q) := ⟨_, rfl⟩
          have HY := Aside0.mk (show (acc2 ++ 13 :: 10 :: 32 :: m.take Q) ++ (tail (m.drop Q) ++ [13, 10]) = acc ++ foldL l by rw [← hT]; simp)
          have HQQ := Aside0.mk (And.intro hml (And.intro hQl (And.intro hQp hm)))
          have hsz2 : 3 + p2.size ≤ 9223372036854775807 := by rw [hp2, hpl2]; have := HA.out.2; omega
          have hsz3 : (9223372036854775807 < 3 + p2.size) = False := eq_false (by omega)
          have hsz4 : (9223372036854775807 < 3 + Q) = False := by rw [← hpl2, ← hp2]; exact hsz3
          rw [← hp2] at hpl2 HPI hcat
          clear hm hml hT hQ hQl hQp hy hp2 hsz2
          go_wp2_with fail
          refine (HPI.out _ (tabs_below HT.out HB.out)).mono ?_
          rintro _ w4 ⟨rfl, hb⟩
          have HB2 := Aside0.mk (HB.out.trans (hb.mono HB.out.size))
          have HBD1 := Aside0.mk (builder_below HBD.out hb)
          clear hb HPI HBD HB
          have HWC := Aside0.mk (Tryd.Builder_WriteString w.heap.size w.heap.size (Lib.byteCells acc2) (mkB (13 :: 10 :: 32 :: m.take Q)) w4 HBD1.out (by rw [byteCells_len, mkB_size]; have h := congrArg List.length HY.out; rw [List.length_append, List.length_append, List.length_append, List.length_append, Nat.add_assoc] at h; exact ar4 HX.out.2.2.2.1 HS.out.2.1 h _ (Nat.le_add_right _ _)) HB2.out.size)
          rw [byteCells_app] at HWC
          go_wp2_with fail
          refine HWC.out.mono ?_
          rintro _ w5 ⟨rfl, hbd, hb2⟩
          have HBD2 := Aside0.mk (isB hbd)
          have HB3 := Aside0.mk (HB2.out.trans hb2)
          clear hbd hb2 HWC HBD1
          go_wp2_with fail
          go_roundw
          case rel => exact ⟨mkB (m.drop Q), p2, _, by first | rfl | rw [hyd], rfl, ⟨by rw [mkB_list]; exact HY.out, by rw [mkB_size, List.length_drop]; have h1 := HQQ.out.1; have h2 := HA.out.2; omega⟩, HBD2, HB3⟩
          case measure => first | (rw [hyd]; show (mkB (m.drop Q)).size < y.size; rw [mkB_size, List.length_drop]; have := HQQ.out; omega) | (show (mkB (m.drop Q)).size < y.size; rw [mkB_size, List.length_drop]; have := HQQ.out; omega)
    · have d1 : decide (k < ls.length) = false := decide_eq_false hk
      have d1' : decide ((k : Int) < (ls.length : Int)) = false := decide_eq_false (by omega)
      have HE := Aside0.mk (show T = acc by
        have h := HK.out.2
        rw [List.drop_of_length_le (by omega)] at h
        rw [h]; unfold foldB; simp [foldAllL])
      have HSC := Aside0.mk (Tryd.Builder_String_any w.heap.size w.heap.size acc wr HBD.out HB.out.size)
      clear hk
      go_wp2_with fail
      refine HSC.out.mono ?_
      rintro _ w4 ⟨rfl, hb⟩
      have HB2 := Aside0.mk (HB.out.trans hb)
      clear hb HSC
      go_wp2_with fail
      go_ret
      rw [HE.out]
      exact ⟨rfl, HB2.out⟩
/-! ### under the print's names; what the tables say is told beside -/
def fold_Fold.f (l0 : List ByteArray) : Option ByteArray := if (foldB l0).length ≤ 1073741824 then some (mkB (foldB l0)) else none
theorem fold_Fold.calls (A0 : Option Addr) (c0 : Nat) (l0 : List ByteArray) (r : ByteArray) (w : World) (hr0 : Kd.C Kd.string w A0 l0.length l0) (hc0 : l0.length ≤ c0) (h : fold_Fold.f l0 = some r) (hT : Lib.Utf8Tabs 1 2 w) :
    Calls Tryd.prog 12 #[.slice A0 l0.length c0] w fun e w' => e = .returned (.string r) ∧ Below w.heap.size w w' := by
  unfold fold_Fold.f at h
  by_cases hs : (foldB l0).length ≤ 1073741824
  · rw [if_pos hs] at h
    injection h with h
    subst h
    exact fold_calls A0 c0 l0 w hr0 hc0 hs hT
  · rw [if_neg hs] at h; cases h

end Go.Proofs.YtkkbkdpfhbjliaaDoor.PF
