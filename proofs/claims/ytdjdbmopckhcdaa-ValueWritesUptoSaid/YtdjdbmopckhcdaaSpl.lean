/- value.split in plain lists. -/
import Derived.Test.YtdjdbmopckhcdaaText
namespace Go.Proofs.Ytdjdbmopckhcdaa.PV
open Go.RowKit Go.Proofs.YtdjdbmopckhcdaaW.PrintWords Go.Proofs.YtdjdbmopckhcdaaW.PrintLast Go.Proofs.YtdjdbmopckhcdaaW.PrintMore
open Go.Proofs Go.Proofs.Ytdjdbmopckhcdaa
set_option linter.unusedVariables false
set_option linter.unusedSimpArgs false
set_option maxHeartbeats 4000000
set_option maxRecDepth 100000

def mkB (l : List UInt8) : ByteArray := ⟨l.toArray⟩
def cHead (p : List UInt8) : List (List UInt8) → List (List UInt8)
  | [] => [p]
  | h :: t => (p ++ h) :: t
/-- A value's pieces at a sign that isn't escaped. -/
def spl (sg : UInt8) : List UInt8 → Option (List (List UInt8))
  | [] => some [[]]
  | b :: l =>
    if b = 92 then
      match l with
      | [] => none
      | c :: l' => (spl sg l').map (cHead [b, c])
    else if b = sg then (spl sg l).map ([] :: ·)
    else (spl sg l).map (cHead [b])
def splI (sg : UInt8) (l : List UInt8) : List ByteArray × Int := match spl sg l with
  | none => ([], 31)
  | some ps => (ps.map mkB, 0)
theorem spl_ne (sg : UInt8) : ∀ (n : Nat) (l : List UInt8) (ps : List (List UInt8)), l.length ≤ n → spl sg l = some ps → ps ≠ []
  | n, [], ps, _, h => by unfold spl at h; injection h with h; rw [← h]; simp
  | 0, b :: l, ps, hl, h => by simp at hl
  | n + 1, b :: l, ps, hl, h => by
    unfold spl at h
    by_cases c1 : b = 92
    · rw [if_pos c1] at h
      cases l with
      | nil => cases h
      | cons c l' =>
        simp only at h
        obtain ⟨qs, hq, rfl⟩ := Option.map_eq_some_iff.1 h
        cases qs <;> simp [cHead]
    · rw [if_neg c1] at h
      by_cases c2 : b = sg
      · rw [if_pos c2] at h
        obtain ⟨qs, hq, rfl⟩ := Option.map_eq_some_iff.1 h
        simp
      · rw [if_neg c2] at h
        obtain ⟨qs, hq, rfl⟩ := Option.map_eq_some_iff.1 h
        cases qs <;> simp [cHead]
theorem cHead_cHead (p q : List UInt8) (ps : List (List UInt8)) (h : ps ≠ []) : cHead p (cHead q ps) = cHead (p ++ q) ps := by
  cases ps with
  | nil => exact absurd rfl h
  | cons h t => simp [cHead]
theorem ext_is (x : ByteArray) (a b : Nat) (hb : b ≤ x.size) : x.extract a b = mkB ((x.data.toList.take b).drop a) := by
  unfold mkB
  apply ByteArray.ext
  rw [ByteArray.data_extract]
  apply Array.toList_inj.1
  rw [Array.toList_extract]
  simp only [List.extract_eq_take_drop]
  rw [List.drop_take]
theorem bt_is (x : ByteArray) (i : Nat) (h : i < x.data.toList.length) : bt x (i : Int) = ((x.data.toList[i]).toNat : Int) := by
  have h2 : i < x.size := h
  unfold bt
  rw [dif_pos (by simpa using h2)]
  rfl
theorem spl_plain {sg : UInt8} {l : List UInt8} {i : Nat} (hi : i < l.length) (h1 : l[i] ≠ 92) (h2 : l[i] ≠ sg) : spl sg (l.drop i) = (spl sg (l.drop (i + 1))).map (cHead [l[i]]) := by
  rw [List.drop_eq_getElem_cons hi]
  conv => lhs; unfold spl
  rw [if_neg h1, if_neg h2]
theorem spl_sign {sg : UInt8} {l : List UInt8} {i : Nat} (hi : i < l.length) (h1 : l[i] ≠ 92) (h2 : l[i] = sg) : spl sg (l.drop i) = (spl sg (l.drop (i + 1))).map ([] :: ·) := by
  rw [List.drop_eq_getElem_cons hi]
  conv => lhs; unfold spl
  rw [if_neg h1, if_pos h2]
theorem spl_esc {sg : UInt8} {l : List UInt8} {i : Nat} (hi : i + 1 < l.length) (h1 : l[i] = 92) : spl sg (l.drop i) = (spl sg (l.drop (i + 2))).map (cHead [l[i], l[i + 1]]) := by
  rw [List.drop_eq_getElem_cons (show i < l.length by omega), List.drop_eq_getElem_cons hi]
  conv => lhs; unfold spl
  rw [if_pos h1]
theorem spl_end {sg : UInt8} {l : List UInt8} {i : Nat} (hi : i + 1 = l.length) (h1 : l[i]'(by omega) = 92) : spl sg (l.drop i) = none := by
  rw [List.drop_eq_getElem_cons (show i < l.length by omega), List.drop_of_length_le (by omega)]
  conv => lhs; unfold spl
  rw [if_pos h1]
def resI (out : List ByteArray) (cur : List UInt8) : Option (List (List UInt8)) → List ByteArray × Int
  | none => ([], 31)
  | some ps => (out ++ (cHead cur ps).map mkB, 0)
theorem take_one {l : List UInt8} {a i : Nat} (hai : a ≤ i) (hi : i < l.length) : (l.take (i + 1)).drop a = (l.take i).drop a ++ [l[i]] := by
  rw [List.take_succ_eq_append_getElem hi, List.drop_append_of_le_length (by rw [List.length_take]; omega)]
theorem split_loop (x : ByteArray) (hx : x.size ≤ 1073741824) (sg : UInt8) (hsg : sg ≠ 92) : ∀ (n i a : Nat) (out : List ByteArray) (k : Nat), i + n = x.size → a ≤ i → out.length ≤ i → n < k →
    PX.value_split.l0 k x (sg.toNat : Int) out (a : Int) (i : Int) = some (resI out ((x.data.toList.take i).drop a) (spl sg (x.data.toList.drop i)))
  | _, _, _, _, 0, _, _, _, hk => by omega
  | 0, i, a, out, k + 1, hn, ha, ho, hk => by
    unfold PX.value_split.l0
    have hl : x.data.toList.length = x.size := rfl
    have hd : x.data.toList.drop i = [] := List.drop_of_length_le (by omega)
    have hs0 : spl sg [] = some [[]] := by unfold spl; rfl
    rw [if_neg (by omega), if_pos (by omega), if_pos (by omega), if_pos (by omega), hd, Int.toNat_natCast, ext_is x a x.size (Nat.le_refl _), hs0]
    have hi : i = x.size := by omega
    subst hi
    simp [resI, cHead]
  | n + 1, i, a, out, k + 1, hn, ha, ho, hk => by
    have hl : x.data.toList.length = x.size := rfl
    have hi : i < x.data.toList.length := by omega
    unfold PX.value_split.l0
    rw [if_pos (by omega), if_pos (by omega), bt_is x i hi]
    have w1 : wrap64 ((i : Int) + 1) = ((i + 1 : Nat) : Int) := by unfold wrap64; omega
    rw [w1]
    by_cases c1 : x.data.toList[i] = 92
    · rw [if_pos (by rw [c1]; rfl)]
      by_cases c2 : i + 1 = x.size
      · rw [if_pos (by omega), spl_end (by omega) c1]; rfl
      · rw [if_neg (by omega)]
        have w2 : wrap64 (((i + 1 : Nat) : Int) + 1) = ((i + 2 : Nat) : Int) := by unfold wrap64; omega
        obtain ⟨m, rfl⟩ : ∃ m, n = m + 1 := ⟨n - 1, by omega⟩
        rw [w2, split_loop x hx sg hsg m (i + 2) a out k (by omega) (by omega) (by omega) (by omega), spl_esc (by omega) c1]
        rw [take_one (show a ≤ i + 1 by omega) (show i + 1 < x.data.toList.length by omega), take_one ha hi]
        cases hs : spl sg (x.data.toList.drop (i + 2)) with
        | none => rfl
        | some ps =>
          have hne := spl_ne sg _ _ _ (Nat.le_refl _) hs
          simp only [Option.map_some, resI]
          rw [cHead_cHead _ _ _ hne, List.append_assoc]; rfl
    · rw [if_neg (by have := ne_nat c1; intro e; apply this; have : ((92 : UInt8).toNat : Int) = 92 := rfl; omega)]
      by_cases c2 : x.data.toList[i] = sg
      · rw [if_pos (by rw [c2]), if_pos (by omega), if_pos (by omega), if_pos (by omega), if_pos (by omega), Int.toNat_natCast, Int.toNat_natCast, ext_is x a i (by omega)]
        rw [split_loop x hx sg hsg n (i + 1) (i + 1) _ k (by omega) (Nat.le_refl _) (by rw [List.length_append]; simp; omega) (by omega), spl_sign hi c1 c2]
        have hz : (x.data.toList.take (i + 1)).drop (i + 1) = [] := List.drop_of_length_le (by rw [List.length_take]; omega)
        rw [hz]
        cases hs : spl sg (x.data.toList.drop (i + 1)) with
        | none => rfl
        | some ps =>
          have hne := spl_ne sg _ _ _ (Nat.le_refl _) hs
          cases ps with
          | nil => exact absurd rfl hne
          | cons h t => simp [resI, cHead]
      · rw [if_neg (by have := ne_nat c2; intro e; exact this (Int.ofNat.inj e))]
        rw [split_loop x hx sg hsg n (i + 1) a out k (by omega) (by omega) (by omega) (by omega), spl_plain hi c1 c2, take_one ha hi]
        cases hs : spl sg (x.data.toList.drop (i + 1)) with
        | none => rfl
        | some ps =>
          have hne := spl_ne sg _ _ _ (Nat.le_refl _) hs
          simp only [Option.map_some, resI]
          rw [cHead_cHead _ _ _ hne]
theorem split_is (x : ByteArray) (hx : x.size ≤ 1073741824) (sg : UInt8) (hsg : sg ≠ 92) (k : Nat) (hk : x.size < k) : PX.value_split.f k x (sg.toNat : Int) = some (splI sg x.data.toList) := by
  have h := split_loop x hx sg hsg x.size 0 0 [] k (by omega) (Nat.le_refl _) (Nat.le_refl _) hk
  unfold PX.value_split.f
  refine (show PX.value_split.l0 k x (sg.toNat : Int) [] 0 0 = _ from h).trans ?_
  have h1 : (x.data.toList.take 0).drop 0 = [] := rfl
  have h2 : x.data.toList.drop 0 = x.data.toList := List.drop_zero
  rw [h1, h2]
  unfold splI
  cases hs : spl sg x.data.toList with
  | none => rfl
  | some ps =>
    have hne := spl_ne sg _ _ _ (Nat.le_refl _) hs
    cases ps with
    | nil => exact absurd rfl hne
    | cons h t => simp [resI, cHead]
/-- No piece is longer, and there are no more of them, than there are bytes. -/
theorem spl_sizes (sg : UInt8) : ∀ (n : Nat) (l : List UInt8) (ps : List (List UInt8)), l.length ≤ n → spl sg l = some ps → ps.length ≤ l.length + 1 ∧ ∀ p ∈ ps, p.length ≤ l.length
  | n, [], ps, _, h => by unfold spl at h; injection h with h; rw [← h]; simp
  | 0, b :: l, ps, hl, h => by simp at hl
  | n + 1, b :: l, ps, hl, h => by
    rw [List.length_cons] at hl
    have hc : ∀ (p : List UInt8) (qs : List (List UInt8)) (m : Nat), qs ≠ [] → (qs.length ≤ m + 1 ∧ ∀ q ∈ qs, q.length ≤ m) → (cHead p qs).length ≤ m + 1 ∧ ∀ q ∈ cHead p qs, q.length ≤ p.length + m := by
      intro p qs m hne ⟨h1, h2⟩
      cases qs with
      | nil => exact absurd rfl hne
      | cons a t =>
        refine ⟨h1, fun q hq => ?_⟩
        rcases List.mem_cons.1 hq with rfl | hq
        · rw [List.length_append]; have := h2 a List.mem_cons_self; omega
        · have := h2 q (List.mem_cons_of_mem _ hq); omega
    unfold spl at h
    by_cases c1 : b = 92
    · rw [if_pos c1] at h
      cases l with
      | nil => cases h
      | cons c l' =>
        simp only at h
        obtain ⟨qs, hq, rfl⟩ := Option.map_eq_some_iff.1 h
        rw [List.length_cons] at hl
        have h1 := hc [b, c] qs l'.length (spl_ne sg _ _ _ (Nat.le_refl _) hq) (spl_sizes sg n l' qs (by omega) hq)
        simp only [List.length_cons, List.length_nil] at h1 ⊢
        exact ⟨by omega, fun p hp => by have := h1.2 p hp; omega⟩
    · rw [if_neg c1] at h
      by_cases c2 : b = sg
      · rw [if_pos c2] at h
        obtain ⟨qs, hq, rfl⟩ := Option.map_eq_some_iff.1 h
        have h1 := spl_sizes sg n l qs (by omega) hq
        refine ⟨by simp only [List.length_cons]; omega, fun p hp => ?_⟩
        rcases List.mem_cons.1 hp with rfl | hp
        · simp
        · have := h1.2 p hp; simp only [List.length_cons]; omega
      · rw [if_neg c2] at h
        obtain ⟨qs, hq, rfl⟩ := Option.map_eq_some_iff.1 h
        have h1 := hc [b] qs l.length (spl_ne sg _ _ _ (Nat.le_refl _) hq) (spl_sizes sg n l qs (by omega) hq)
        simp only [List.length_cons, List.length_nil] at h1 ⊢
        exact ⟨by omega, fun p hp => by have := h1.2 p hp; omega⟩

end Go.Proofs.Ytdjdbmopckhcdaa.PV
