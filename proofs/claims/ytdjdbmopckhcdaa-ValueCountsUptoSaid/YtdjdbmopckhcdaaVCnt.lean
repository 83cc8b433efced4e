/- The law of counting. -/
import Derived.Test.YtdjdbmopckhcdaaVSgn
import Derived.Test.YtdjdbmopckhcdaaPVx5
namespace Go.Proofs.Ytdjdbmopckhcdaa.PV
open Go.RowKit Go.Proofs.YtdjdbmopckhcdaaW.PrintWords Go.Proofs.YtdjdbmopckhcdaaW.PrintLast Go.Proofs.YtdjdbmopckhcdaaW.PrintMore
open Go.Proofs Go.Proofs.Ytdjdbmopckhcdaa
set_option linter.unusedVariables false
set_option linter.unusedSimpArgs false
set_option maxHeartbeats 4000000
set_option maxRecDepth 100000



theorem nnC_92 {c : UInt8} (h : c ≠ 92) : ¬ ((c.toNat : Int) = 92) := fun e => h ((nat92 (b := c) (n := 92) (by decide)).1 e)
theorem nnC_59 {c : UInt8} (h : c ≠ 59) : ¬ ((c.toNat : Int) = 59) := fun e => h ((nat92 (b := c) (n := 59) (by decide)).1 e)
theorem nnC_44 {c : UInt8} (h : c ≠ 44) : ¬ ((c.toNat : Int) = 44) := fun e => h ((nat92 (b := c) (n := 44) (by decide)).1 e)
/-- How often a sign stands in a value without a stroke before it. -/
def cs (sg : UInt8) : List UInt8 → Nat
  | [] => 0
  | b :: l =>
    if b = 92 then
      match l with
      | [] => 0
      | c :: l' => cs sg l'
    else (if b = sg then 1 else 0) + cs sg l
theorem cs_nil (sg : UInt8) : cs sg [] = 0 := by unfold cs; rfl
theorem cs_stroke (sg : UInt8) : cs sg [92] = 0 := by unfold cs; rw [if_pos rfl]
theorem cs_esc (sg c : UInt8) (r : List UInt8) : cs sg (92 :: c :: r) = cs sg r := by
  conv => lhs; unfold cs
  rw [if_pos rfl]
theorem cs_one (sg b : UInt8) (r : List UInt8) (h : b ≠ 92) : cs sg (b :: r) = (if b = sg then 1 else 0) + cs sg r := by
  conv => lhs; unfold cs
  rw [if_neg h]
theorem cs_len (sg : UInt8) (l : List UInt8) : cs sg l ≤ l.length := by
  refine bytes_all (P := fun l => cs sg l ≤ l.length) l (by rw [cs_nil]; simp) (by rw [cs_stroke]; simp) ?_ ?_
  · intro c r ih; rw [cs_esc]; simp; omega
  · intro b r hb ih; rw [cs_one sg b r hb]; simp; split <;> omega
def csum (sg : UInt8) : List (List UInt8) → Nat
  | [] => 0
  | p :: ps => cs sg p + csum sg ps
/-- A value has one piece more than it has signs; and what it has of another sign lies in its pieces. -/
theorem spl_counts (sg st : UInt8) (hsg : sg ≠ 92) (hst : st ≠ sg) (l : List UInt8) : ∀ ps, spl sg l = some ps → ps.length = cs sg l + 1 ∧ csum st ps = cs st l := by
  refine bytes_all (P := fun l => ∀ ps, spl sg l = some ps → ps.length = cs sg l + 1 ∧ csum st ps = cs st l) l ?_ ?_ ?_ ?_
  · intro ps h; rw [spl_nil] at h; injection h with h; subst h
    exact ⟨by rw [cs_nil]; rfl, by simp [csum, cs_nil]⟩
  · intro ps h; rw [spl_stroke] at h; cases h
  · intro c r ih ps h
    rw [spl_esc2] at h
    obtain ⟨qs, hq, rfl⟩ := Option.map_eq_some_iff.1 h
    obtain ⟨i1, i2⟩ := ih qs hq
    cases qs with
    | nil => exact absurd rfl (spl_ne sg _ _ _ (Nat.le_refl _) hq)
    | cons q qs =>
      rw [cs_esc, cs_esc]
      refine ⟨by rw [← i1]; rfl, ?_⟩
      show cs st (92 :: c :: q) + csum st qs = _
      rw [cs_esc]; exact i2
  · intro b r hb ih ps h
    by_cases c : b = sg
    · subst c
      rw [spl_sg b r hb] at h
      obtain ⟨qs, hq, rfl⟩ := Option.map_eq_some_iff.1 h
      obtain ⟨i1, i2⟩ := ih qs hq
      rw [cs_one b b r hb, cs_one st b r hb, if_pos rfl, if_neg (fun e => hst e.symm)]
      refine ⟨by rw [List.length_cons, i1]; omega, ?_⟩
      show cs st [] + csum st qs = _
      rw [cs_nil, i2]
    · rw [spl_one sg b r hb c] at h
      obtain ⟨qs, hq, rfl⟩ := Option.map_eq_some_iff.1 h
      obtain ⟨i1, i2⟩ := ih qs hq
      cases qs with
      | nil => exact absurd rfl (spl_ne sg _ _ _ (Nat.le_refl _) hq)
      | cons q qs =>
        rw [cs_one sg b r hb, cs_one st b r hb, if_neg c]
        refine ⟨by rw [Nat.zero_add, ← i1]; rfl, ?_⟩
        show cs st (b :: q) + csum st qs = _
        rw [cs_one st b q hb, ← i2]
        show _ = _ + (cs st q + csum st qs)
        omega
def slen : List (List ByteArray) → Nat
  | [] => 0
  | p :: ps => p.length + slen ps
theorem mapF_counts : ∀ (ps : List (List UInt8)) (fs : List (List ByteArray)), mapF ps = some fs → fs.length = ps.length ∧ slen fs = csum 44 ps + ps.length
  | [], fs, h => by unfold mapF at h; injection h with h; subst h; exact ⟨rfl, rfl⟩
  | p :: ps, fs, h => by
    unfold mapF at h
    obtain ⟨t, ht, h⟩ := Option.bind_eq_some_iff.1 h
    obtain ⟨gs, hg, rfl⟩ := Option.map_eq_some_iff.1 h
    obtain ⟨i1, i2⟩ := mapF_counts ps gs hg
    unfold listO at ht
    obtain ⟨qs, hq, ht⟩ := Option.bind_eq_some_iff.1 ht
    have e1 := mapT_len _ _ ht
    have e2 := (spl_counts 44 59 (by decide) (by decide) p qs hq).1
    refine ⟨by rw [List.length_cons, List.length_cons, i1], ?_⟩
    show t.length + slen gs = cs 44 p + csum 44 ps + (ps.length + 1)
    omega
theorem fieldsI_counts (l : List UInt8) (h : (fieldsI 59 l).2 = 0) : (fieldsI 59 l).1.length = cs 59 l + 1 ∧ slen (fieldsI 59 l).1 = cs 44 l + cs 59 l + 1 := by
  unfold fieldsI at h ⊢
  cases hs : spl 59 l with
  | none => rw [hs] at h; cases h
  | some ps =>
    rw [hs] at h
    dsimp only at h ⊢
    cases hm : mapF ps with
    | none => rw [hm] at h; cases h
    | some fs =>
      dsimp only
      obtain ⟨i1, i2⟩ := mapF_counts ps fs hm
      obtain ⟨j1, j2⟩ := spl_counts 59 44 (by decide) (by decide) l ps hs
      omega
theorem fieldsI_none (l : List UInt8) (h : (fieldsI 59 l).2 ≠ 0) : (fieldsI 59 l).1 = [] := by
  unfold fieldsI at h ⊢
  cases hs : spl 59 l with
  | none => rfl
  | some ps =>
    rw [hs] at h
    dsimp only at h ⊢
    cases hm : mapF ps with
    | none => rfl
    | some fs => rw [hm] at h; exact absurd rfl h
theorem counts_loop (x : ByteArray) (hx : x.size ≤ 1073741824) (x3 : List (List ByteArray)) : ∀ (n i a b k : Nat), x.size ≤ i + n → i ≤ x.size + 1 → a ≤ i + 1 → b ≤ i + 1 → n < k →
    ∃ j, k ≤ j + n + 1 ∧ calepinlaw04_ValueCounts.l0 k x x3 (a : Int) (b : Int) (i : Int) = calepinlaw04_ValueCounts.l1 j x3 ((a + cs 59 (x.data.toList.drop i) : Nat) : Int) ((b + cs 59 (x.data.toList.drop i) + cs 44 (x.data.toList.drop i) : Nat) : Int) 0 x3 (x3.length : Int) 0
  | _, _, _, _, 0, _, _, _, _, hk => by omega
  | n, i, a, b, k + 1, hn, hi1, ha, hb, hk => by
    have hl : x.data.toList.length = x.size := rfl
    by_cases hi : i < x.data.toList.length
    · obtain ⟨n, rfl⟩ : ∃ m, n = m + 1 := ⟨n - 1, by omega⟩
      have w1 : ∀ z : Nat, z ≤ 4294967296 → wrap64 ((z : Int) + 1) = ((z + 1 : Nat) : Int) := by intro z hz; unfold wrap64; omega
      unfold calepinlaw04_ValueCounts.l0
      rw [if_pos (by omega), if_pos (by omega), bt_is x i hi, List.drop_eq_getElem_cons hi]
      generalize hc : x.data.toList[i] = c
      rw [w1 i (by omega), w1 (i + 1) (by omega), w1 a (by omega), w1 b (by omega)]
      by_cases c1 : c = 92
      · subst c1
        rw [if_pos (by rfl)]
        obtain ⟨j, hj, e⟩ := counts_loop x hx x3 n (i + 2) a b k (by omega) (by omega) (by omega) (by omega) (by omega)
        refine ⟨j, by omega, ?_⟩
        rw [show i + 1 + 1 = i + 2 from rfl, e]
        by_cases hi2 : i + 1 < x.data.toList.length
        · rw [List.drop_eq_getElem_cons hi2, cs_esc, cs_esc]
        · rw [List.drop_of_length_le (show x.data.toList.length ≤ i + 1 by omega), List.drop_of_length_le (show x.data.toList.length ≤ i + 2 by omega), cs_stroke, cs_stroke, cs_nil, cs_nil]
      · rw [if_neg (nnC_92 c1), cs_one 59 c _ c1, cs_one 44 c _ c1]
        by_cases c2 : c = 59
        · subst c2
          rw [if_pos (by rfl), if_pos rfl, if_neg (by decide)]
          obtain ⟨j, hj, e⟩ := counts_loop x hx x3 n (i + 1) (a + 1) (b + 1) k (by omega) (by omega) (by omega) (by omega) (by omega)
          refine ⟨j, by omega, ?_⟩
          rw [e]; congr 2 <;> omega
        · rw [if_neg (nnC_59 c2), if_neg c2]
          by_cases c3 : c = 44
          · subst c3
            rw [if_pos (by rfl), if_pos rfl]
            obtain ⟨j, hj, e⟩ := counts_loop x hx x3 n (i + 1) a (b + 1) k (by omega) (by omega) (by omega) (by omega) (by omega)
            refine ⟨j, by omega, ?_⟩
            rw [e]; congr 2 <;> omega
          · rw [if_neg (nnC_44 c3), if_neg c3]
            obtain ⟨j, hj, e⟩ := counts_loop x hx x3 n (i + 1) a b k (by omega) (by omega) (by omega) (by omega) (by omega)
            refine ⟨j, by omega, ?_⟩
            rw [e]; congr 2 <;> omega
    · refine ⟨k, by omega, ?_⟩
      conv => lhs; unfold calepinlaw04_ValueCounts.l0
      rw [if_neg (by omega), List.drop_of_length_le (by omega), cs_nil, cs_nil]
      rfl
theorem sums_loop (xs : List (List ByteArray)) (B : Nat) (hB : B ≤ 4294967296) (hs : xs.length ≤ 4294967296) : ∀ (n i s k : Nat), i + n = xs.length → s + slen (xs.drop i) = B → n < k →
    calepinlaw04_ValueCounts.l1 k xs (xs.length : Int) (B : Int) (s : Int) xs (xs.length : Int) (i : Int) = some true
  | _, _, _, 0, _, _, hk => by omega
  | 0, i, s, k + 1, hn, he, hk => by
    unfold calepinlaw04_ValueCounts.l1
    rw [List.drop_of_length_le (by omega)] at he
    have he : s = B := he
    rw [if_neg (by omega), if_pos rfl, he]
    simp
  | n + 1, i, s, k + 1, hn, he, hk => by
    have hi : i < xs.length := by omega
    rw [List.drop_eq_getElem_cons hi] at he
    have he : s + (xs[i].length + slen (xs.drop (i + 1))) = B := he
    unfold calepinlaw04_ValueCounts.l1
    rw [if_pos (by omega), if_pos (by omega), if_pos (by omega), rd_L5s xs i hi]
    have w1 : wrap64 ((i : Int) + 1) = ((i + 1 : Nat) : Int) := by unfold wrap64; omega
    have w2 : wrap64 ((s : Int) + (xs[i].length : Int)) = ((s + xs[i].length : Nat) : Int) := by unfold wrap64; omega
    rw [w1, w2]
    exact sums_loop xs B hB hs n (i + 1) (s + xs[i].length) k (by omega) (by omega) (by omega)
theorem counts_pure (a : ByteArray) (ha : a.size ≤ 1048576) : ∃ k, calepinlaw04_ValueCounts.f k a = some true := by
  have hl : a.data.toList.length = a.size := rfl
  by_cases h : (fieldsI 59 a.data.toList).2 = 0
  · obtain ⟨e1, e2⟩ := fieldsI_counts _ h
    have l1 := cs_len 59 a.data.toList
    have l2 := cs_len 44 a.data.toList
    refine ⟨4 * a.size + 32, ?_⟩
    unfold calepinlaw04_ValueCounts.f
    rw [first_is, Option.bind_some, if_pos (by trivial), fields_f a (by omega), Option.bind_some, if_pos h]
    obtain ⟨j, hj, e⟩ := counts_loop a (by omega) (fieldsI 59 a.data.toList).1 a.size 0 1 1 (4 * a.size + 32) (by omega) (by omega) (by omega) (by omega) (by omega)
    refine (show _ = _ from e).trans ?_
    rw [List.drop_zero]
    rw [show 1 + cs 59 a.data.toList = (fieldsI 59 a.data.toList).1.length by omega]
    exact sums_loop _ _ (by omega) (by omega) _ 0 0 j (Nat.zero_add _) (by rw [List.drop_zero]; omega) (by omega)
  · refine ⟨0, ?_⟩
    unfold calepinlaw04_ValueCounts.f
    rw [first_is, Option.bind_some, if_pos (by trivial), fields_f a (by omega), Option.bind_some, if_neg h, fieldsI_none _ h]
    rfl
theorem counts_walk (a0 : ByteArray) (w : World) (w0 : a0.size ≤ 1048576) : Calls Try.prog 6 #[.string a0] w fun e w' => e = .returned (.bool true) ∧ Below w.heap.size w w' := by
  obtain ⟨k, hk⟩ := counts_pure a0 w0
  exact calepinlaw04_ValueCounts.calls k a0 true w hk

end Go.Proofs.Ytdjdbmopckhcdaa.PV
