/- The plain law of FoldBlanks. -/
import Derived.Test.YtkkbkdpfhbjliaaDoorPLx4
import Derived.Test.YtkkbkdpfhbjliaaDoorLwA
namespace Go.Proofs.YtkkbkdpfhbjliaaDoor.PL
open Go.RowKit Go.Proofs.YtkkbkdpfhbjliaaDoorW.PrintWords Go.Proofs.YtkkbkdpfhbjliaaDoorW.PrintLast Go.Proofs.YtkkbkdpfhbjliaaDoorW.PrintMore
set_option linter.unusedVariables false
set_option linter.unusedSimpArgs false
set_option maxHeartbeats 4000000
set_option maxRecDepth 100000

open Go.Proofs Go.Lib Go.Proofs.YtkkbkdpfhbjliaaDoor.PF
/-- What has been put together so far is read as the line's beginning, whatever follows. -/
structure Inv (l S : List UInt8) (a : Nat) : Prop where
  le : a ≤ l.length
  st : ∃ cur out, (∀ t, unf [] [] (S ++ t) = unf cur out t) ∧ ((a = 0 ∧ cur = [] ∧ out = []) ∨ (Holds out cur [] (l.take a) ∧ 13 ∉ cur))
theorem inv_start (l : List UInt8) : Inv l [] 0 := ⟨Nat.zero_le _, [], [], fun t => rfl, .inl ⟨rfl, rfl, rfl⟩⟩
theorem inv_more {l S : List UInt8} {a : Nat} (h : Inv l S a) (hg : good l = true) (b : Nat) (hab : a < b) (hb : b ≤ l.length) :
    ∃ cur out, (∀ t, unf [] [] (S ++ ((l.take b).drop a ++ t)) = unf cur out t) ∧ Holds out cur [] (l.take b) ∧ 13 ∉ cur := by
  obtain ⟨cur, out, h1, h2⟩ := h.st
  have hl : 13 ∉ l ∧ 10 ∉ l := by
    cases l with
    | nil => cases hg
    | cons c t => exact ((good_cons c t).1 hg).2
  have hp13 : 13 ∉ (l.take b).drop a := fun e => hl.1 (List.mem_of_mem_take (List.mem_of_mem_drop e))
  have hp10 : 10 ∉ (l.take b).drop a := fun e => hl.2 (List.mem_of_mem_take (List.mem_of_mem_drop e))
  refine ⟨cur ++ (l.take b).drop a, out, fun t => by rw [h1, unf_app _ cur out t hp10], ?_, ?_⟩
  · rcases h2 with ⟨rfl, rfl, rfl⟩ | ⟨h2, h3⟩
    · rw [List.nil_append, List.drop_zero]
      cases l with
      | nil => cases hg
      | cons c t =>
        obtain ⟨q, rfl⟩ : ∃ q, b = q + 1 := ⟨b - 1, by omega⟩
        rw [List.take_succ_cons]
        exact holds_start [] c _ ((good_cons c t).1 hg).1 (fun e => hl.1 (List.mem_of_mem_take (i := q + 1) (by rw [List.take_succ_cons]; exact e)))
    · have := h2.more _ hp13
      have e : l.take a ++ (l.take b).drop a = l.take b := by
        conv => rhs; rw [← List.take_append_drop a (l.take b)]
        rw [List.take_take, Nat.min_eq_left (by omega)]
      rw [e] at this
      exact this
  · rcases h2 with ⟨rfl, rfl, rfl⟩ | ⟨h2, h3⟩
    · rw [List.nil_append]; exact hp13
    · simp only [List.mem_append, not_or]; exact ⟨h3, hp13⟩
theorem inv_step {l S : List UInt8} {a : Nat} (h : Inv l S a) (hg : good l = true) (b : Nat) (hab : a < b) (hb : b ≤ l.length) (sep : List UInt8) (hs : sep = [10, 32] ∨ sep = [10, 9] ∨ sep = [13, 10, 32] ∨ sep = [13, 10, 9]) :
    Inv l (S ++ ((l.take b).drop a ++ sep)) b := by
  obtain ⟨cur, out, h1, h2, h3⟩ := inv_more h hg b hab hb
  have key : ∀ c : UInt8, PF.blank c = true → c ≠ 13 → c ≠ 10 → ∀ pre : List UInt8, (pre = [] ∨ pre = [13]) → Inv l (S ++ ((l.take b).drop a ++ (pre ++ [10, c]))) b := fun c hc hc13 hc10 pre hpre => by
    refine ⟨hb, [c], [] ++ [l.take b], fun t => ?_, .inr ⟨holds_on [] (l.take b) c hc hc13, by simpa using fun e => hc13 e.symm⟩⟩
    rw [List.append_assoc, List.append_assoc, h1, List.append_assoc]
    have hput : unf cur out (pre ++ 10 :: (c :: t)) = unf [] ([] ++ [l.take b]) (c :: t) := by
      rcases hpre with rfl | rfl
      · rw [List.nil_append, unf_ten, strip_no cur h3, h2.now]; rfl
      · rw [unf_app [13] cur out _ (by decide), unf_ten, strip_cr, h2.now]; rfl
    show unf cur out (pre ++ 10 :: (c :: t)) = _
    rw [hput]
    conv => lhs; unfold unf
    rw [if_neg hc10]; rfl
  rcases hs with rfl | rfl | rfl | rfl
  · exact key 32 (by decide) (by decide) (by decide) [] (.inl rfl)
  · exact key 9 (by decide) (by decide) (by decide) [] (.inl rfl)
  · exact key 32 (by decide) (by decide) (by decide) [13] (.inr rfl)
  · exact key 9 (by decide) (by decide) (by decide) [13] (.inr rfl)
theorem inv_end {l S : List UInt8} {a : Nat} (h : Inv l S a) (hg : good l = true) (ha : a < l.length) : unfold (S ++ (l.drop a ++ [10])) = some [l] := by
  obtain ⟨cur, out, h1, h2, h3⟩ := inv_more h hg l.length ha (Nat.le_refl _)
  rw [List.take_of_length_le (Nat.le_refl _)] at h1 h2
  unfold unfold
  rw [h1, unf_ten, strip_no cur h3, h2.now, Option.bind_some]
  unfold unf
  rw [if_pos rfl]; rfl
def blEnd (x0 x5 : ByteArray) (x6 : Int) : Option Bool := (if 0 ≤ x6 then (if x6 ≤ (x0.size : Int) then (if (x0.extract (x6 : Int).toNat x0.size).size + 1 ≤ 9223372036854775807 then (if x5.size + ((x0.extract (x6 : Int).toNat x0.size) ++ (⟨#[10]⟩ : ByteArray)).size ≤ 9223372036854775807 then ((fold_Unfold.f (x5 ++ ((x0.extract (x6 : Int).toNat x0.size) ++ (⟨#[10]⟩ : ByteArray)))).bind fun bt164 => (if bt164.2 = 0 then (if (bt164.1.length : Int) = 1 then (if 0 < (bt164.1.length : Int) then (some ((rdOf ByteArray.empty bt164.1 0).toList == x0.toList)) else (none)) else (some false)) else (some false))) else (none)) else (none)) else (none)) else (none))
theorem blEnd_true (x : ByteArray) (S : List UInt8) (a : Nat) (hg : good x.data.toList = true) (hx : x.size ≤ 2000) (hS : S.length ≤ 1000) (h : Inv x.data.toList S a) (ha : a < x.size) : blEnd x (mkB S) (a : Int) = some true := by
  have he := inv_end h hg ha
  have hlen : (x.data.toList.drop a).length ≤ 2000 := by rw [List.length_drop]; show x.size - a ≤ 2000; omega
  have e1 : x.extract ((a : Nat) : Int).toNat x.size = mkB (x.data.toList.drop a) := by rw [Int.toNat_natCast, ext_from]
  unfold blEnd
  rw [if_pos (by omega), if_pos (by omega), e1, show (⟨#[10]⟩ : ByteArray) = mkB [10] from rfl, mkB_app, mkB_app, mkB_size, mkB_size, mkB_size, if_pos (by omega), if_pos (by rw [List.length_append, List.length_singleton]; omega)]
  have hU : fold_Unfold.f (mkB (S ++ (x.data.toList.drop a ++ [10]))) = some ([mkB x.data.toList], 0) := by
    unfold fold_Unfold.f
    rw [if_pos (by rw [mkB_size, List.length_append, List.length_append, List.length_singleton]; omega), mkB_list, he]; rfl
  rw [hU, Option.bind_some]
  simp only [if_true]
  rw [if_pos (show (([mkB x.data.toList] : List ByteArray).length : Int) = 1 from rfl), if_pos (show 0 < (([mkB x.data.toList] : List ByteArray).length : Int) by rw [List.length_singleton]; decide), mkB_of]
  exact congrArg some (beq_iff_eq.2 rfl)
theorem seven (c : Int) : ∃ m : Nat, Int.tmod (IntKind.u64.wrap c) 7 = (m : Int) ∧ m ≤ 6 := by
  have h := IntKind.wrap_u64 c
  have h0 : 0 ≤ IntKind.u64.wrap c := by rw [h]; omega
  rw [Int.tmod_eq_emod_of_nonneg h0]
  exact ⟨(IntKind.u64.wrap c % 7).toNat, by omega, by omega⟩
theorem four (c : Int) : ∃ j : Nat, Int.tmod (IntKind.u64.wrap (Int.tdiv (IntKind.u64.wrap c) 7)) 4 = (j : Int) ∧ j ≤ 3 := by
  have h := IntKind.wrap_u64 (Int.tdiv (IntKind.u64.wrap c) 7)
  have h0 : 0 ≤ IntKind.u64.wrap (Int.tdiv (IntKind.u64.wrap c) 7) := by rw [h]; omega
  rw [Int.tmod_eq_emod_of_nonneg h0]
  exact ⟨(IntKind.u64.wrap (Int.tdiv (IntKind.u64.wrap c) 7) % 4).toNat, by omega, by omega⟩
def seps : List ByteArray := [(⟨#[10, 32]⟩ : ByteArray), (⟨#[10, 9]⟩ : ByteArray), (⟨#[13, 10, 32]⟩ : ByteArray), (⟨#[13, 10, 9]⟩ : ByteArray)]
theorem seps_at (j : Nat) (h : j ≤ 3) : ∃ sep : List UInt8, rdOf ByteArray.empty seps (j : Int) = mkB sep ∧ sep.length ≤ 3 ∧ (sep = [10, 32] ∨ sep = [10, 9] ∨ sep = [13, 10, 32] ∨ sep = [13, 10, 9]) := by
  rcases (show j = 0 ∨ j = 1 ∨ j = 2 ∨ j = 3 by omega) with rfl | rfl | rfl | rfl
  · exact ⟨[10, 32], rfl, by decide, .inl rfl⟩
  · exact ⟨[10, 9], rfl, by decide, .inr (.inl rfl)⟩
  · exact ⟨[13, 10, 32], rfl, by decide, .inr (.inr (.inl rfl))⟩
  · exact ⟨[13, 10, 9], rfl, by decide, .inr (.inr (.inr rfl))⟩
theorem blanks_loop (x : ByteArray) (hg : good x.data.toList = true) (hx : x.size ≤ 2000) (zs : List Int) : ∀ (n i k a : Nat) (S : List UInt8), i + n = zs.length → n < k → i ≤ 20 → S.length ≤ 10 * i → Inv x.data.toList S a → a < x.size →
    calepinlaw02_FoldBlanks.l0 k x (mkB S) (a : Int) zs (zs.length : Int) (i : Int) = some true
  | _, _, 0, _, _, _, hk, _, _, _, _ => by omega
  | 0, i, k + 1, a, S, hn, hk, hi, hS, hI, ha => by
    unfold calepinlaw02_FoldBlanks.l0
    rw [if_neg (by omega)]
    exact blEnd_true x S a hg hx (by omega) hI ha
  | n + 1, i, k + 1, a, S, hn, hk, hi, hS, hI, ha => by
    unfold calepinlaw02_FoldBlanks.l0
    rw [if_pos (by omega), if_pos (by omega), if_pos (by omega)]
    by_cases h20 : (i : Int) ≥ 20
    · rw [if_pos h20]
      exact blEnd_true x S a hg hx (by omega) hI ha
    · rw [if_neg h20]
      obtain ⟨m, hm, hm6⟩ := seven (rd zs (i : Int))
      obtain ⟨j, hj, hj3⟩ := four (rd zs (i : Int))
      rw [hm, hj]
      clear hm hj
      have w1 := Aside0.mk (show wrap64 ((m : Nat) : Int) = (m : Int) from by unfold wrap64; omega)
      have w2 := Aside0.mk (show wrap64 (1 + (m : Int)) = 1 + (m : Int) from by unfold wrap64; omega)
      have w3 := Aside0.mk (show wrap64 ((a : Int) + (1 + (m : Int))) = ((a + 1 + m : Nat) : Int) from by unfold wrap64; omega)
      have w4 := Aside0.mk (show wrap64 ((i : Int) + 1) = ((i + 1 : Nat) : Int) from by unfold wrap64; omega)
      rw [w1.out, w2.out, w3.out, w4.out]
      clear w1 w2 w3 w4
      by_cases hend : ((a + 1 + m : Nat) : Int) ≥ (x.size : Int)
      · rw [if_pos hend]
        exact blEnd_true x S a hg hx (by omega) hI ha
      · obtain ⟨sep, hsep, hsl, hss⟩ := seps_at j hj3
        have e1 : x.extract ((a : Nat) : Int).toNat ((a + 1 + m : Nat) : Int).toNat = mkB ((x.data.toList.take (a + 1 + m)).drop a) := by rw [Int.toNat_natCast, Int.toNat_natCast, ext_is x _ _ (by omega)]
        have hpl : ((x.data.toList.take (a + 1 + m)).drop a).length = 1 + m := by
          rw [List.length_drop, List.length_take]
          have : x.data.toList.length = x.size := rfl
          omega
        rw [if_neg hend, if_pos (by omega), if_pos (by omega), if_pos (by omega), e1, Option.bind_some]
        show (if 0 ≤ (j : Int) then (if (j : Int) < (seps.length : Int) then (if (mkB ((x.data.toList.take (a + 1 + m)).drop a)).size + (rdOf ByteArray.empty seps (j : Int)).size ≤ 9223372036854775807 then (if (mkB S).size + (mkB ((x.data.toList.take (a + 1 + m)).drop a) ++ rdOf ByteArray.empty seps (j : Int)).size ≤ 9223372036854775807 then calepinlaw02_FoldBlanks.l0 k x (mkB S ++ (mkB ((x.data.toList.take (a + 1 + m)).drop a) ++ rdOf ByteArray.empty seps (j : Int))) ((a + 1 + m : Nat) : Int) zs (zs.length : Int) ((i + 1 : Nat) : Int) else none) else none) else none) else none) = _
        have hl4 : (seps.length : Int) = 4 := rfl
        rw [hsep, hl4, mkB_app, mkB_app, mkB_size, mkB_size, mkB_size, mkB_size, if_pos (by omega), if_pos (by omega), if_pos (by omega), if_pos (by rw [List.length_append]; omega)]
        exact blanks_loop x hg hx zs n (i + 1) k (a + 1 + m) _ (by omega) (by omega) (by omega) (by rw [List.length_append, List.length_append, hpl]; omega) (inv_step hI hg (a + 1 + m) (by omega) (by show a + 1 + m ≤ x.size; omega) sep hss) (by omega)
theorem blanks_true (a0 : ByteArray) (zs : List Int) (h : a0.size ≤ 1073741824) : ∃ k, calepinlaw02_FoldBlanks.f k a0 zs = some true := by
  have hG : fold_Good.f a0 = some (good a0.data.toList) := by unfold fold_Good.f; rw [if_pos h]
  unfold calepinlaw02_FoldBlanks.f
  rw [hG]
  simp only [calepinlaw02_first_is, Option.bind_some, if_true]
  cases hg : good a0.data.toList with
  | false => exact ⟨1, rfl⟩
  | true =>
    simp only [if_true]
    by_cases hbig : (a0.size : Int) > 2000
    · rw [decide_eq_true hbig]; exact ⟨1, rfl⟩
    · rw [decide_eq_false hbig]
      have hne : 0 < a0.size := by
        show 0 < a0.data.toList.length
        cases hl : a0.data.toList with
        | nil => rw [hl] at hg; cases hg
        | cons => simp
      refine ⟨zs.length + 2, ?_⟩
      show calepinlaw02_FoldBlanks.l0 (zs.length + 1) a0 (mkB []) ((0 : Nat) : Int) zs (zs.length : Int) ((0 : Nat) : Int) = _
      exact blanks_loop a0 hg (by omega) zs zs.length 0 (zs.length + 1) 0 [] (by omega) (by omega) (by omega) (by simp) (inv_start _) hne

end Go.Proofs.YtkkbkdpfhbjliaaDoor.PL
