/- fold.Unfold and fold.Good in plain lists. -/
import Derived.Test.YtkkbkdpfhbjliaaDoorPFx1
import Derived.Test.YtkkbkdpfhbjliaaDoorFold
import Derived.Lib.IndexLaws
import Derived.Lib.IndexBytes
namespace Go.Proofs.YtkkbkdpfhbjliaaDoor.PF
open Go.RowKit Go.Proofs.YtkkbkdpfhbjliaaDoorW.PrintWords Go.Proofs.YtkkbkdpfhbjliaaDoorW.PrintLast Go.Proofs.YtkkbkdpfhbjliaaDoorW.PrintMore
set_option linter.unusedVariables false
set_option linter.unusedSimpArgs false
set_option maxHeartbeats 4000000
set_option maxRecDepth 100000

open Go.Proofs Go.Lib
theorem bt_is (x : ByteArray) (i : Nat) (h : i < x.data.toList.length) : bt x (i : Int) = ((x.data.toList[i]).toNat : Int) := by
  have h2 : i < x.size := h
  unfold bt
  rw [dif_pos (by simpa using h2)]
  rfl
theorem mkB_of (x : ByteArray) : mkB x.data.toList = x := by
  obtain ⟨⟨l⟩⟩ := x
  rfl
theorem tl (x : ByteArray) : x.toList = x.data.toList := Lib.toList_data x
theorem tl_mkB (l : List UInt8) : (mkB l).toList = l := by rw [tl, mkB_list]
theorem mkB_app (a b : List UInt8) : mkB a ++ mkB b = mkB (a ++ b) := by
  apply ByteArray.ext
  rw [ByteArray.data_append]
  apply Array.toList_inj.1
  rw [Array.toList_append]; rfl
theorem cut_cases (l : List UInt8) (c : UInt8) : (c ∉ l ∧ Lib.cut l [c] = (l, [], false)) ∨ ∃ r t, l = r ++ c :: t ∧ c ∉ r ∧ Lib.cut l [c] = (r, t, true) := by
  have h1 := Lib.index_one l c
  unfold Lib.cut
  by_cases hi : 0 ≤ Lib.index l [c]
  · rw [if_pos hi]
    obtain ⟨o, ho⟩ : ∃ o : Nat, Lib.indexByte l c = o := ⟨(Lib.index l [c]).toNat, by rw [← h1]; omega⟩
    have h2 := Lib.indexByte_some ho
    rw [h1, ho]
    have hlt : o < l.length := (List.getElem?_eq_some_iff.1 h2.1).1
    refine .inr ⟨l.take o, l.drop (o + 1), ?_, ?_, ?_⟩
    · have hg : l[o] = c := by have := h2.1; rw [List.getElem?_eq_getElem hlt] at this; injection this
      rw [← hg, ← List.drop_eq_getElem_cons hlt, List.take_append_drop]
    · intro hm
      obtain ⟨k, hk⟩ := List.mem_iff_getElem?.1 hm
      have hk2 : k < o := by have := (List.getElem?_eq_some_iff.1 hk).1; rw [List.length_take] at this; omega
      rw [List.getElem?_take, if_pos hk2] at hk
      exact h2.2 k hk2 hk
    · simp
  · rw [if_neg hi]
    have hn : Lib.indexByte l c = -1 := by have := Lib.indexByte_ge l c; omega
    refine .inl ⟨fun hm => ?_, rfl⟩
    obtain ⟨k, hk⟩ := List.mem_iff_getElem?.1 hm
    exact Lib.indexByte_none hn k hk
theorem trim_strip (r : List UInt8) : Lib.trimSuffix r [13] = strip r := by
  unfold Lib.trimSuffix strip
  cases hl : r.getLast? with
  | none =>
    have hr : r = [] := by simpa using hl
    subst hr
    rfl
  | some x =>
    obtain ⟨q, rfl⟩ := List.getLast?_eq_some_iff.1 hl
    by_cases hx : x = 13
    · subst hx
      rw [if_pos (by simp [Lib.hasSuffix]), if_pos rfl]
      simp
    · rw [if_neg (by simp [Lib.hasSuffix]; exact fun e => hx e.symm), if_neg (by simpa using hx)]
def resU : Option (List (List UInt8)) → List ByteArray × Int
  | none => ([], 20)
  | some o => (o.map mkB, 0)
theorem set_last (out : List (List UInt8)) (x : List UInt8) (t : List UInt8) (h : out.getLast? = some x) :
    (out.map mkB).set (out.length - 1) (mkB (x ++ t)) = (out.dropLast ++ [x ++ t]).map mkB := by
  obtain ⟨q, rfl⟩ := List.getLast?_eq_some_iff.1 h
  rw [List.dropLast_concat, List.length_append, List.length_singleton, Nat.add_sub_cancel, List.map_append, List.map_append, List.map_singleton, List.map_singleton]
  rw [List.set_append_right _ _ (by rw [List.length_map]; exact Nat.le_refl _), List.length_map, Nat.sub_self]
  rfl
theorem rd_last (out : List (List UInt8)) (x : List UInt8) (h : out.getLast? = some x) : rdOf ByteArray.empty (out.map mkB) ((out.length - 1 : Nat) : Int) = mkB x := by
  obtain ⟨q, rfl⟩ := List.getLast?_eq_some_iff.1 h
  unfold rdOf
  rw [List.length_append, List.length_singleton, Nat.add_sub_cancel, Int.toNat_natCast, List.getD_eq_getElem?_getD, List.map_append, List.getElem?_append_right (by rw [List.length_map]; exact Nat.le_refl _), List.length_map, Nat.sub_self]
  rfl
theorem strip_len (r : List UInt8) : (strip r).length ≤ r.length := by
  unfold strip
  split
  · rw [List.length_dropLast]; omega
  · exact Nat.le_refl _
theorem put_len (out : List (List UInt8)) (r : List UInt8) (o : List (List UInt8)) (h : put out r = some o) : o.length ≤ out.length + 1 ∧ (∀ N, (∀ l ∈ out, l.length ≤ N) → ∀ l ∈ o, l.length ≤ N + r.length) := by
  cases r with
  | nil => cases h
  | cons b t =>
    unfold put at h
    simp only at h
    by_cases c1 : 13 ∈ b :: t
    · rw [if_pos c1] at h; cases h
    · rw [if_neg c1] at h
      by_cases c2 : blank b = true
      · rw [if_pos c2] at h
        cases hg : out.getLast? with
        | none => rw [hg] at h; cases h
        | some x =>
          rw [hg] at h
          injection h with h
          subst h
          obtain ⟨q, rfl⟩ := List.getLast?_eq_some_iff.1 hg
          rw [List.dropLast_concat]
          refine ⟨by simp, fun N hN l hl => ?_⟩
          rw [List.mem_append, List.mem_singleton] at hl
          rcases hl with hl | rfl
          · have := hN l (List.mem_append_left _ hl); omega
          · have := hN x (by simp); rw [List.length_append, List.length_cons]; omega
      · rw [if_neg c2] at h
        injection h with h
        subst h
        refine ⟨by simp, fun N hN l hl => ?_⟩
        rw [List.mem_append, List.mem_singleton] at hl
        rcases hl with hl | rfl
        · have := hN l hl; omega
        · omega
theorem j2_is (rest : ByteArray) (out : List (List UInt8)) (b : UInt8) (t : List UInt8) (k : Nat) (N : Nat) (hN : ∀ l ∈ out, l.length ≤ N) (hN2 : N ≤ 1073741824) (ho : out.length ≤ 1073741824) (ht : t.length ≤ 1073741824) (h13 : 13 ∉ b :: t) :
    fold_Unfold.j2 (k + 1) rest (out.map mkB) (mkB (b :: t)) (!blank b) = match put out (b :: t) with | none => some ([], 20) | some o => fold_Unfold.l0 k rest (o.map mkB) := by
  unfold fold_Unfold.j2 put
  simp only
  rw [if_neg h13]
  cases hb : blank b
  · simp only [Bool.not_false, if_true]
    rw [if_pos (by rw [List.length_map]; omega)]
    simp only [Bool.false_eq_true, if_false, List.map_append]; rfl
  · simp only [Bool.not_true]
    simp only [Bool.false_eq_true, if_false, if_true, List.length_map]
    cases hg : out.getLast? with
    | none =>
      have : out = [] := by simpa using hg
      subst this
      rfl
    | some x =>
      have hne : 1 ≤ out.length := by
        obtain ⟨q, rfl⟩ := List.getLast?_eq_some_iff.1 hg
        simp
      have hw : wrap64 ((out.length : Int) - 1) = ((out.length - 1 : Nat) : Int) := by unfold wrap64; omega
      rw [if_neg (by omega), hw, if_pos (by omega), if_pos (by omega), if_pos (by rw [mkB_size, List.length_cons]; omega), rd_last out x hg]
      have hx : x.length ≤ N := hN x (List.mem_of_getLast? hg)
      have he : (mkB (b :: t)).extract 1 (mkB (b :: t)).size = mkB t := by rw [ext_from]; rfl
      rw [he, if_pos (by rw [mkB_size, mkB_size]; omega), mkB_app, Int.toNat_natCast, set_last out x t hg]
theorem j1_is (rest : ByteArray) (out : List (List UInt8)) (r : List UInt8) (k : Nat) (N : Nat) (hN : ∀ l ∈ out, l.length ≤ N) (hN2 : N ≤ 1073741824) (ho : out.length ≤ 1073741824) (hr : r.length ≤ 1073741824) :
    fold_Unfold.j1 (k + 2) (out.map mkB) (mkB r) rest (decide (r = []) || decide (13 ∈ r)) = match put out r with | none => some ([], 20) | some o => fold_Unfold.l0 k rest (o.map mkB) := by
  unfold fold_Unfold.j1
  cases r with
  | nil => rw [if_pos (by simp)]; rfl
  | cons b t =>
    by_cases h13 : 13 ∈ b :: t
    · rw [if_pos (by rw [decide_eq_true h13]; simp)]
      unfold put
      simp only
      rw [if_pos h13]
    · rw [if_neg (by rw [decide_eq_false h13]; simp), if_pos (by rw [mkB_size, List.length_cons]; omega)]
      have hb : bt (mkB (b :: t)) 0 = (b.toNat : Int) := bt_is (mkB (b :: t)) 0 (by show 0 < (b :: t).length; simp)
      rw [hb]
      rw [← j2_is rest out b t k N hN hN2 ho (by rw [List.length_cons] at hr; omega) h13]
      by_cases c1 : b = 32
      · subst c1
        rw [if_pos (show ((32 : UInt8).toNat : Int) = 32 from rfl)]; rfl
      · rw [if_neg (by intro e; apply c1; apply UInt8.toNat_inj.1; have : ((32 : UInt8).toNat : Int) = 32 := rfl; omega)]
        congr 1
        unfold blank
        have c1' : (b == 32) = false := by simpa using c1
        rw [c1', Bool.false_or]
        by_cases c2 : b = 9
        · subst c2; rfl
        · have c2' : (b == 9) = false := by simpa using c2
          rw [c2']
          exact bne_iff_ne.2 (by intro e; apply c2; apply UInt8.toNat_inj.1; have : ((9 : UInt8).toNat : Int) = 9 := rfl; omega)
theorem unfold_loop : ∀ (n : Nat) (l : List UInt8) (out : List (List UInt8)) (k N : Nat), l.length ≤ n → 3 * n < k → (∀ x ∈ out, x.length ≤ N) → N + l.length ≤ 1073741824 → out.length + l.length ≤ 1073741824 →
    fold_Unfold.l0 k (mkB l) (out.map mkB) = some (resU (unf [] out l))
  | n, l, out, 0, N, hn, hk, _, _, _ => by omega
  | 0, l, out, k + 1, N, hn, hk, _, _, _ => by
    have : l = [] := List.eq_nil_of_length_eq_zero (by omega)
    subst this
    unfold fold_Unfold.l0 unf
    rw [if_pos (tl_mkB []), if_pos rfl]; rfl
  | n + 1, l, out, k + 1, N, hn, hk, hN, hN2, ho => by
    unfold fold_Unfold.l0
    by_cases hl : l = []
    · subst hl
      unfold unf
      rw [if_pos (tl_mkB []), if_pos rfl]; rfl
    · rw [if_neg (by rw [tl_mkB]; exact hl)]
      obtain ⟨m, rfl⟩ : ∃ m, k = m + 2 := ⟨k - 2, by omega⟩
      have hcut : strings_Cut.f (mkB l) ⟨#[10]⟩ = some (mkB (Lib.cut l [10]).1, mkB (Lib.cut l [10]).2.1, (Lib.cut l [10]).2.2) := by
        unfold strings_Cut.f
        rw [if_pos ⟨rfl, by rw [mkB_size]; omega⟩]; rfl
      rw [hcut, Option.bind_some]
      have htrim : ∀ r : List UInt8, r.length ≤ 1073741824 → strings_TrimSuffix.f (mkB r) ⟨#[13]⟩ = some (mkB (strip r)) := fun r hr => by
        unfold strings_TrimSuffix.f
        rw [if_pos (by rw [mkB_size]; omega)]
        unfold trimC
        rw [mkB_list, show (⟨#[13]⟩ : ByteArray).data.toList = [13] from rfl, trim_strip]; rfl
      rcases cut_cases l 10 with ⟨hno, hc⟩ | ⟨r, t, hlrt, hno, hc⟩
      · rw [hc]
        simp only
        rw [htrim l (by omega), Option.bind_some, if_neg (by decide), unf_open l out hno hl]
        unfold fold_Unfold.j1
        rw [if_pos rfl]; rfl
      · have hlen : l.length = r.length + 1 + t.length := by rw [hlrt]; simp; omega
        rw [hc]
        simp only
        rw [htrim r (by omega), Option.bind_some]
        simp only [if_true]
        have hcon : strings_Contains.f (mkB (strip r)) ⟨#[13]⟩ = some (decide (13 ∈ strip r)) := by
          unfold strings_Contains.f
          rw [if_pos (show (⟨#[13]⟩ : ByteArray).size = 1 from rfl)]
          unfold containsC
          rw [mkB_list, show (⟨#[13]⟩ : ByteArray).data.toList = [13] from rfl]
          congr 2
          simp
        have hs := strip_len r
        have key := j1_is (mkB t) out (strip r) m N hN (by omega) (by omega) (by omega)
        have hstep : (if (mkB (strip r)).toList = ([] : List UInt8) then fold_Unfold.j1 (m + 2) (out.map mkB) (mkB (strip r)) (mkB t) true else (strings_Contains.f (mkB (strip r)) ⟨#[13]⟩).bind fun t108 => fold_Unfold.j1 (m + 2) (out.map mkB) (mkB (strip r)) (mkB t) t108) = fold_Unfold.j1 (m + 2) (out.map mkB) (mkB (strip r)) (mkB t) (decide (strip r = []) || decide (13 ∈ strip r)) := by
          rw [tl_mkB]
          by_cases he : strip r = []
          · rw [if_pos he, decide_eq_true he, Bool.true_or]
          · rw [if_neg he, hcon, Option.bind_some, decide_eq_false he, Bool.false_or]
        rw [hstep, key, hlrt, unf_row r out t hno]
        cases hp : put out (strip r) with
        | none => rfl
        | some o =>
          have hpl := put_len out (strip r) o hp
          exact unfold_loop n t o m (N + (strip r).length) (by omega) (by omega) (hpl.2 N hN) (by omega) (by omega)
theorem Unfold_is (x : ByteArray) (hx : x.size ≤ 1073741824) (k : Nat) (hk : 3 * x.size < k) : fold_Unfold.f k x = some (resU (unfold x.data.toList)) := by
  have h := unfold_loop x.size x.data.toList [] k 0 (Nat.le_refl _) hk (by simp) (by show 0 + x.size ≤ _; omega) (by show 0 + x.size ≤ _; omega)
  rw [mkB_of] at h
  exact h
theorem Good_is (x : ByteArray) (hx : x.size ≤ 1073741824) : fold_Good.f x = some (good x.data.toList) := by
  unfold fold_Good.f
  rw [tl]
  have hbt := fun (h : 0 < x.data.toList.length) => bt_is x 0 h
  have hsz : (x.size : Int) = (x.data.toList.length : Int) := rfl
  have hany : strings_ContainsAny.f x ⟨#[13, 10]⟩ = some (decide (13 ∈ x.data.toList ∨ 10 ∈ x.data.toList)) := by
    unfold strings_ContainsAny.f
    rw [if_pos ⟨⟨by decide, by decide, by decide⟩, hx⟩]
    unfold containsC
    rw [show (⟨#[13, 10]⟩ : ByteArray).data.toList = [13, 10] from rfl]
    congr 2
    simp
  rw [hsz, hany]
  cases hl : x.data.toList with
  | nil => rw [if_pos rfl]; rfl
  | cons b t =>
    rw [hl] at hbt
    have h0 := hbt (by simp)
    rw [if_neg (by simp), if_pos (by rw [List.length_cons]; omega), show (0 : Int) = ((0 : Nat) : Int) from rfl, h0]
    simp only [List.getElem_cons_zero]
    by_cases c1 : b = 32
    · subst c1
      rw [if_pos (show ((32 : UInt8).toNat : Int) = 32 from rfl)]; rfl
    · rw [if_neg (by intro e; apply c1; apply UInt8.toNat_inj.1; have : ((32 : UInt8).toNat : Int) = 32 := rfl; omega)]
      by_cases c2 : b = 9
      · subst c2
        rw [if_pos (show ((9 : UInt8).toNat : Int) = 9 from rfl)]; rfl
      · rw [if_neg (by intro e; apply c2; apply UInt8.toNat_inj.1; have : ((9 : UInt8).toNat : Int) = 9 := rfl; omega), Option.bind_some]
        congr 1
        have c1' : (b == 32) = false := by simpa using c1
        have c2' : (b == 9) = false := by simpa using c2
        have hbl : blank b = false := by unfold blank; rw [c1', c2']; rfl
        cases hg : good (b :: t) with
        | true =>
          have := (good_cons b t).1 hg
          rw [decide_eq_false (by rintro (h | h); exact this.2.1 h; exact this.2.2 h)]; rfl
        | false =>
          rw [decide_eq_true (by
            refine Decidable.byContradiction fun h => ?_
            rw [not_or] at h
            have := (good_cons b t).2 ⟨hbl, h.1, h.2⟩
            rw [this] at hg
            cases hg)]; rfl

end Go.Proofs.YtkkbkdpfhbjliaaDoor.PF
