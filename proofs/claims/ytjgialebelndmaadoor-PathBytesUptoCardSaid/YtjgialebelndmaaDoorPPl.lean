/- The document's Of and Parse in plain lists. -/
import Derived.Test.YtjgialebelndmaaDoorVPl
import Derived.Test.YtjgialebelndmaaDoorPGx4
import Derived.Test.YtjgialebelndmaaDoorPrs
namespace Go.Proofs.YtjgialebelndmaaDoor.PG
open Go.RowKit Go.Proofs.YtjgialebelndmaaDoorW.PrintWords Go.Proofs.YtjgialebelndmaaDoorW.PrintLast Go.Proofs.YtjgialebelndmaaDoorW.PrintMore
open Go.Shelf
set_option linter.unusedVariables false
set_option linter.unusedSimpArgs false
set_option maxHeartbeats 4000000
set_option maxRecDepth 100000

open Go.Proofs Go.Lib Go.Proofs.YtjgialebelndmaaDoor.PF
def mkB (l : List UInt8) : ByteArray := ⟨l.toArray⟩
theorem mkB_list (l : List UInt8) : (mkB l).data.toList = l := rfl
theorem mkB_of (x : ByteArray) : mkB x.data.toList = x := by
  obtain ⟨⟨l⟩⟩ := x
  rfl
theorem mkB_size (l : List UInt8) : (mkB l).size = l.length := rfl
theorem mkB_app (a b : List UInt8) : mkB a ++ mkB b = mkB (a ++ b) := bapp a b
/-- A text cut at its first stroke. -/
def cut47 : List UInt8 → Option (List UInt8 × List UInt8)
  | [] => none
  | c :: t => if c = 47 then some ([], t) else (cut47 t).map fun uv => (c :: uv.1, uv.2)
theorem cut47_some : ∀ (l u v : List UInt8), cut47 l = some (u, v) → l = u ++ 47 :: v ∧ Lib.index l [47] = (u.length : Int)
  | [], u, v, h => by cases h
  | c :: t, u, v, h => by
    rw [Lib.index_one]
    unfold Lib.indexByte
    unfold cut47 at h
    by_cases hc : c = 47
    · rw [if_pos hc] at h
      cases h
      rw [hc]; exact ⟨rfl, rfl⟩
    · rw [if_neg hc] at h
      obtain ⟨⟨u', v'⟩, h1, h2⟩ := Option.map_eq_some_iff.1 h
      simp only [Prod.mk.injEq] at h2
      obtain ⟨rfl, rfl⟩ := h2
      have ih := cut47_some t u' v' h1
      rw [Lib.index_one] at ih
      rw [if_neg (by simpa using hc), ih.2]
      refine ⟨by rw [List.cons_append, ← ih.1], ?_⟩
      rw [if_neg (by rw [beq_iff_eq]; omega), List.length_cons]; omega
theorem cut47_none : ∀ (l : List UInt8), cut47 l = none → 47 ∉ l ∧ Lib.index l [47] = -1
  | [], _ => ⟨by simp, rfl⟩
  | c :: t, h => by
    rw [Lib.index_one]
    unfold Lib.indexByte
    unfold cut47 at h
    by_cases hc : c = 47
    · rw [if_pos hc] at h; cases h
    · rw [if_neg hc] at h
      have ih := cut47_none t (Option.map_eq_none_iff.1 h)
      rw [Lib.index_one] at ih
      rw [if_neg (by simpa using hc), ih.2]
      exact ⟨fun hm => by rcases List.mem_cons.1 hm with e | e; exact hc e.symm; exact ih.1 e, rfl⟩
theorem cut47_app : ∀ (u v : List UInt8), 47 ∉ u → cut47 (u ++ 47 :: v) = some (u, v)
  | [], v, _ => by unfold cut47; rfl
  | c :: u, v, h => by
    rw [List.cons_append]
    unfold cut47
    rw [if_neg (fun e => h (by rw [e]; exact List.mem_cons_self ..)), cut47_app u v (fun hm => h (List.mem_cons_of_mem _ hm))]; rfl
theorem pcs_none (l : List UInt8) (h : cut47 l = none) : pcs (mkB l) = [mkB l] := by
  have hi : Lib.indexB (mkB l) ⟨#[47]⟩ = -1 := (cut47_none l h).2
  unfold pcs
  rw [Lib.splitB_miss _ _ _ _ hi]
theorem pcs_some (l u v : List UInt8) (h : cut47 l = some (u, v)) : pcs (mkB l) = mkB u :: pcs (mkB v) := by
  obtain ⟨he, hx⟩ := cut47_some l u v h
  have hi : Lib.indexB (mkB l) ⟨#[47]⟩ = (u.length : Nat) := hx
  have hr : (mkB l).extract (u.length + (⟨#[47]⟩ : ByteArray).size) (mkB l).size = mkB v := by
    apply ByteArray.ext
    apply Array.toList_inj.1
    rw [ext_drop, mkB_list, mkB_list, he]
    show (u ++ 47 :: v).drop (u.length + 1) = v
    rw [List.drop_append, List.drop_of_length_le (by omega)]
    simp
  have hl : (mkB l).extract 0 (u.length + 0) = mkB u := by
    apply ByteArray.ext
    apply Array.toList_inj.1
    rw [mkB_list, he]
    simp [mkB]
  unfold pcs
  rw [Lib.countB_hit (mkB l) ⟨#[47]⟩ u.length (show 1 ≤ (⟨#[47]⟩ : ByteArray).size from Nat.le_refl 1) hi, Nat.add_comm 1, Lib.splitB_hit _ _ _ _ _ hi, hr, hl]
/-- Behind the first stroke: two segments. -/
def finO (u v : List UInt8) : Option (List UInt8 × List UInt8) := (txtL u).bind fun a => if v = [] then some (a, []) else (txtL v).map fun b => (a, b)
/-- What a path says. -/
def prsL (l : List UInt8) : Option (List UInt8 × List UInt8) :=
  if l = [47] then some ([], []) else match l with
  | [] => none
  | c :: t => if c = 47 then (cut47 t).bind fun uv => finO uv.1 uv.2 else none
theorem dg47 : dg 47 < 0 := by decide +kernel
theorem pl47 : pl 47 = false := by decide +kernel
theorem unL_no47 : ∀ (n : Nat) (l r : List UInt8), l.length ≤ n → unL l = some r → 47 ∉ l
  | n, [], r, _, _ => by simp
  | 0, c :: t, r, hn, _ => by simp at hn
  | n + 1, c :: t, r, hn, h => by
    by_cases hc : c = 37
    · subst hc
      match t, h, hn with
      | [], h, _ => cases h
      | [a], h, _ => cases h
      | a :: b :: q, h, hn =>
        rw [unL_pct] at h
        by_cases hd : dg a < 0 ∨ dg b < 0
        · rw [if_pos hd] at h; cases h
        · rw [if_neg hd] at h
          obtain ⟨r', h1, _⟩ := Option.map_eq_some_iff.1 h
          have ih := unL_no47 n q r' (by simp only [List.length_cons] at hn; omega) h1
          intro hm
          rcases List.mem_cons.1 hm with e | hm
          · cases e
          rcases List.mem_cons.1 hm with e | hm
          · exact hd (.inl (by rw [← e]; exact dg47))
          rcases List.mem_cons.1 hm with e | hm
          · exact hd (.inr (by rw [← e]; exact dg47))
          exact ih hm
    · rw [unL_plain c t hc] at h
      cases hp : pl c with
      | false => rw [hp] at h; cases h
      | true =>
        rw [hp, if_pos rfl] at h
        obtain ⟨r', h1, _⟩ := Option.map_eq_some_iff.1 h
        have ih := unL_no47 n t r' (by simp only [List.length_cons] at hn; omega) h1
        intro hm
        rcases List.mem_cons.1 hm with e | hm
        · rw [← e, pl47] at hp; cases hp
        · exact ih hm
theorem txtL_47 (l : List UInt8) (h : 47 ∈ l) : txtL l = none := by
  unfold txtL
  cases hu : unL l with
  | none => rfl
  | some r => exact absurd h (unL_no47 _ l r (Nat.le_refl _) hu)
theorem prsS_is (s : ByteArray) : prsS s = prsL s.data.toList := by
  obtain ⟨l, hl⟩ : ∃ l, l = s.data.toList := ⟨_, rfl⟩
  have hs : s = mkB l := by rw [hl, mkB_of]
  subst hs
  rw [mkB_list]
  unfold prsS prsL
  rw [mkB_list]
  by_cases h47 : l = [47]
  · rw [if_pos h47, if_pos h47]
  rw [if_neg h47, if_neg h47]
  match l with
  | [] => rw [pcs_none [] rfl]; rfl
  | c :: t =>
    show prsP _ = if c = 47 then _ else none
    by_cases hc : c = 47
    · subst hc
      rw [if_pos rfl, pcs_some (47 :: t) [] t (by unfold cut47; rfl)]
      cases h1 : cut47 t with
      | none => rw [pcs_none t h1]; rfl
      | some uv =>
        obtain ⟨u, v⟩ := uv
        rw [pcs_some t u v h1]
        cases h2 : cut47 v with
        | none => rw [pcs_none v h2]; rfl
        | some pq =>
          obtain ⟨p, q⟩ := pq
          have hv := (cut47_some v p q h2).1
          have h4 : prsP (mkB [] :: mkB u :: pcs (mkB v)) = none := prsP_not _ (by
            rw [pcs_some v p q h2]
            have := pcs_len (mkB q)
            simp only [List.length_cons]
            omega)
          rw [h4, Option.bind_some]
          unfold finO
          have hne : v ≠ [] := by rw [hv]; simp
          rw [txtL_47 v (by rw [hv]; simp)]
          cases txtL u with
          | none => rfl
          | some a => rw [Option.bind_some, if_neg hne]; rfl
    · rw [if_neg hc]
      cases h1 : cut47 (c :: t) with
      | none => rw [pcs_none _ h1]; rfl
      | some uv =>
        obtain ⟨u, v⟩ := uv
        rw [pcs_some _ u v h1]
        have hu : u ≠ [] := by
          intro e
          subst e
          have := (cut47_some _ _ _ h1).1
          rw [List.nil_append] at this
          exact hc (List.cons.inj this).1
        match hp : pcs (mkB v) with
        | [] => rfl
        | [_] => rfl
        | [_, _] =>
          show (if (mkB u).data.toList = [] then _ else none) = none
          rw [mkB_list, if_neg hu]
        | _ :: _ :: _ :: _ => rfl
/-! ### the document's Of and Parse -/
def resO : Option (List UInt8) → ByteArray × Bool
  | none => (⟨#[]⟩, false)
  | some r => (mkB r, true)
def resP : Option (List UInt8 × List UInt8) → ByteArray × ByteArray × Bool
  | none => (⟨#[]⟩, ⟨#[]⟩, false)
  | some r => (mkB r.1, mkB r.2, true)
theorem Of_is (c n : ByteArray) (hc : c.size ≤ 1073741824) (hn : n.size ≤ 1073741824) : ∃ k, calepinref06_Of.f k c n = some (resO (ofL c.data.toList n.data.toList)) := by
  refine ⟨c.size + n.size + 30, ?_⟩
  have hcl : c.data.toList.length = c.size := rfl
  have hnl : n.data.toList.length = n.size := rfl
  have hsc : calepinref06_Segment.f c = some (mkB (escL c.data.toList)) := by unfold calepinref06_Segment.f; rw [if_pos hc]; rfl
  have hsn : calepinref06_Segment.f n = some (mkB (escL n.data.toList)) := by unfold calepinref06_Segment.f; rw [if_pos hn]; rfl
  have l1 := escL_len c.data.toList
  have l2 := escL_len n.data.toList
  have hj1 (b : Bool) : calepinref06_Of.j1 (c.size + n.size + 28) c n b = if b = true then some (⟨#[]⟩, false) else some (mkB ([47] ++ escL c.data.toList ++ [47] ++ escL n.data.toList), true) := by
    cases b with
    | true => rfl
    | false =>
      show ((calepinref06_Segment.f c).bind fun t118 => _) = _
      rw [hsc, Option.bind_some, show (⟨#[47]⟩ : ByteArray) = mkB [47] from rfl, mkB_app, mkB_size, mkB_size, if_pos (by omega), if_pos (by rw [List.length_append]; simp only [List.length_cons, List.length_nil]; omega), hsn, Option.bind_some, mkB_app, mkB_size, mkB_size, if_pos (by rw [List.length_append, List.length_append]; simp only [List.length_cons, List.length_nil]; omega), mkB_app]
      rfl
  have hj0 (b : Bool) : calepinref06_Of.j0 (c.size + n.size + 30) c n b = if b = true then some (mkB [47], true) else ((calepinref06_Fits.f (c.size + n.size + 29) c).bind fun t116 => (if t116 = true then (if (n.size : Int) > 0 then ((calepinref06_Fits.f (c.size + n.size + 29) n).bind fun t117 => (calepinref06_Of.j1 (c.size + n.size + 29) c n (!t117))) else (calepinref06_Of.j1 (c.size + n.size + 29) c n false)) else (calepinref06_Of.j1 (c.size + n.size + 29) c n true))) := rfl
  have hj1' (b : Bool) : calepinref06_Of.j1 (c.size + n.size + 29) c n b = if b = true then some (⟨#[]⟩, false) else some (mkB ([47] ++ escL c.data.toList ++ [47] ++ escL n.data.toList), true) := at_rounds (g := fun k => calepinref06_Of.j1 k c n b) (fun k => ((calepinref06_Of.mono_l k).2 c n b)) (Nat.le_succ _) (by
    show calepinref06_Of.j1 (c.size + n.size + 28) c n b = some (if b = true then (⟨#[]⟩, false) else (mkB ([47] ++ escL c.data.toList ++ [47] ++ escL n.data.toList), true))
    rw [hj1]; cases b <;> rfl) |>.trans (by cases b <;> rfl)
  unfold calepinref06_Of.f
  rw [hj0, hj0, Fits_is c _ (by omega), Fits_is n _ (by omega)]
  simp only [Option.bind_some, hj1']
  unfold ofL
  by_cases h1 : c.data.toList = []
  · have s1 : c.size = 0 := by rw [← hcl, h1]; rfl
    have hf : fitsL c.data.toList = false := by rw [h1]; decide
    rw [if_pos (by omega)]
    by_cases h2 : n.data.toList = []
    · have s2 : n.size = 0 := by rw [← hnl, h2]; rfl
      rw [if_pos (show c.data.toList = [] ∧ n.data.toList = [] from ⟨h1, h2⟩), if_pos (show ((n.size : Int) == 0) = true by rw [s2]; rfl)]; rfl
    · have s2 : n.size ≠ 0 := fun e => h2 (List.eq_nil_of_length_eq_zero e)
      rw [if_neg (show ¬ (c.data.toList = [] ∧ n.data.toList = []) from fun h => h2 h.2), if_neg (show ¬ ((n.size : Int) == 0) = true by rw [show ((n.size : Int) == 0) = false from beq_eq_false_iff_ne.2 (by omega)]; decide), hf]; rfl
  · have s1 : c.size ≠ 0 := fun e => h1 (List.eq_nil_of_length_eq_zero e)
    rw [if_neg (show ¬ ((c.size : Int) = 0) by omega), if_neg (show ¬ (false = true) by decide), if_neg (show ¬ (c.data.toList = [] ∧ n.data.toList = []) from fun h => h1 h.1)]
    cases fitsL c.data.toList with
    | false => rfl
    | true =>
      rw [if_pos rfl, if_pos rfl]
      by_cases h2 : n.data.toList = []
      · have s2 : n.size = 0 := by rw [← hnl, h2]; rfl
        rw [if_neg (by omega), if_pos h2, h2]
        simp only [escL, List.append_nil]; rfl
      · have s2 : n.size ≠ 0 := fun e => h2 (List.eq_nil_of_length_eq_zero e)
        rw [if_pos (by omega), if_neg h2]
        cases fitsL n.data.toList <;> rfl
theorem Text_f (y : ByteArray) (hy : y.size ≤ 1073741824) (k : Nat) (hk : 3 * y.size + 30 ≤ k) : calepinref06_Text.f k y = some (txR [] (unL y.data.toList)) := by
  have h := Text_loop y hy y.size 0 [] k (by omega) (by simp) (by omega)
  rw [List.drop_zero] at h
  exact h
theorem Parse_loop (x : ByteArray) (hx : x.size ≤ 1073741824) : ∀ (n i k : Nat), i + n = x.size → 1 ≤ i → n + 3 * x.size + 31 ≤ k →
    calepinref06_Parse.l0 k x (i : Int) = some (resP ((cut47 (x.data.toList.drop i)).bind fun uv => finO ((x.data.toList.drop 1).take (i - 1) ++ uv.1) uv.2))
  | n, i, 0, _, _, hk => by omega
  | n, i, k + 1, hi, h1, hk => by
    have hxl : x.data.toList.length = x.size := rfl
    have hw : wrap64 ((i : Int) + 1) = ((i + 1 : Nat) : Int) := by unfold wrap64; omega
    unfold calepinref06_Parse.l0
    rw [hw]
    by_cases h0 : i < x.size
    · obtain ⟨n, rfl⟩ : ∃ m, n = m + 1 := ⟨n - 1, by omega⟩
      have hil : i < x.data.toList.length := h0
      rw [if_pos (by omega), if_pos (by omega), bt_is x i hil, List.drop_eq_getElem_cons hil]
      obtain ⟨c, hc⟩ : ∃ c, c = x.data.toList[i] := ⟨_, rfl⟩
      rw [← hc]
      unfold cut47
      by_cases c47 : c = 47
      · subst c47
        have e1 : (x.extract 1 ((i : Int)).toNat).data.toList = (x.data.toList.drop 1).take (i - 1) := by
          rw [Int.toNat_natCast]; simp
        have e2 : (x.extract (((i + 1 : Nat) : Int)).toNat x.size).data.toList = x.data.toList.drop (i + 1) := by
          rw [Int.toNat_natCast]; exact ext_drop x (i + 1)
        have z1 : (x.extract 1 ((i : Int)).toNat).size ≤ x.size := by rw [ByteArray.size_extract]; omega
        have z2 : (x.extract (((i + 1 : Nat) : Int)).toNat x.size).size ≤ x.size := by rw [ByteArray.size_extract]; omega
        rw [if_pos (show ((47 : UInt8).toNat : Int) = 47 from rfl), if_pos (by omega), if_pos (by omega), if_pos rfl, Text_f _ (by omega) k (by omega), e1, Option.bind_some, Option.bind_some]
        show _ = some (resP (finO ((x.data.toList.drop 1).take (i - 1) ++ []) (x.data.toList.drop (i + 1))))
        rw [List.append_nil]
        generalize (x.data.toList.drop 1).take (i - 1) = u
        have hv : x.data.toList.drop (i + 1) = [] ↔ i + 1 = x.size := by
          rw [List.drop_eq_nil_iff]; omega
        unfold finO txtL
        cases hu : unL u with
        | none => rfl
        | some r =>
          rw [Option.bind_some]
          rw [show txR [] (some r) = (mkB r, fitsL r) from rfl]
          cases hf : fitsL r with
          | false => rfl
          | true =>
            rw [if_pos rfl, if_pos rfl, Option.bind_some]
            by_cases he : i + 1 = x.size
            · rw [if_pos (by omega), if_pos (hv.2 he)]; rfl
            · rw [if_neg (by omega), if_pos (by omega), if_pos (by omega), Text_f _ (by omega) k (by omega), e2, Option.bind_some, if_neg (fun h => he (hv.1 h))]
              generalize x.data.toList.drop (i + 1) = v
              cases hu : unL v with
              | none => rfl
              | some q =>
                rw [Option.bind_some]
                rw [show txR [] (some q) = (mkB q, fitsL q) from rfl]
                cases hf : fitsL q <;> rfl
      · have hne : ¬ ((c.toNat : Int) = 47) := fun h => c47 (UInt8.toNat_inj.1 (by show c.toNat = 47; omega))
        rw [if_neg hne, if_neg c47, Parse_loop x hx n (i + 1) k (by omega) (by omega) (by omega)]
        have hpre : (x.data.toList.drop 1).take (i + 1 - 1) = (x.data.toList.drop 1).take (i - 1) ++ [c] := by
          obtain ⟨j, rfl⟩ : ∃ j, i = j + 1 := ⟨i - 1, by omega⟩
          rw [Nat.add_sub_cancel, Nat.add_sub_cancel, List.take_succ_eq_append_getElem (by rw [List.length_drop]; omega), List.getElem_drop, hc]
          simp only [Nat.add_comm]
        rw [hpre]
        cases cut47 (x.data.toList.drop (i + 1)) with
        | none => rfl
        | some uv => simp
    · have hd : x.data.toList.drop i = [] := List.drop_of_length_le (by omega)
      rw [if_neg (by omega), hd]; rfl
theorem Parse_is (x : ByteArray) (hx : x.size ≤ 1073741824) : ∃ k, calepinref06_Parse.f k x = some (resP (prsL x.data.toList)) := by
  refine ⟨4 * x.size + 40, ?_⟩
  have ht : x.toList = x.data.toList := Lib.toList_data x
  have hxl : x.data.toList.length = x.size := rfl
  have hj (b : Bool) : calepinref06_Parse.j0 (4 * x.size + 40) x b = if b = true then some (⟨#[]⟩, ⟨#[]⟩, false) else calepinref06_Parse.l0 (4 * x.size + 39) x ((1 : Nat) : Int) := rfl
  unfold calepinref06_Parse.f prsL
  rw [ht, hj, hj]
  by_cases h47 : x.data.toList = [47]
  · rw [if_pos h47, if_pos h47]; rfl
  · rw [if_neg h47, if_neg h47]
    by_cases h0 : x.size = 0
    · have hl : x.data.toList = [] := List.eq_nil_of_length_eq_zero h0
      rw [if_pos (by omega), if_pos rfl, hl]; rfl
    · rw [if_neg (by omega), if_pos (by omega), Parse_loop x hx (x.size - 1) 1 _ (by omega) (by omega) (by omega), show (0 : Int) = ((0 : Nat) : Int) from rfl, bt_is x 0 (by omega)]
      obtain ⟨c, t, hct⟩ : ∃ c t, x.data.toList = c :: t := by
        cases hl : x.data.toList with
        | nil => rw [hl] at hxl; exact absurd hxl.symm h0
        | cons c t => exact ⟨c, t, rfl⟩
      · rw [List.getElem_of_eq hct, List.getElem_cons_zero, hct]
        simp only [List.getElem_cons_zero, List.drop_succ_cons, List.drop_zero, Nat.sub_self, List.take_zero, List.nil_append]
        by_cases c47 : c = 47
        · subst c47
          rw [if_neg (by decide), if_pos rfl]
        · have hne : ((c.toNat : Int) != 47) = true := bne_iff_ne.2 (fun h => c47 (UInt8.toNat_inj.1 (by show c.toNat = 47; omega)))
          rw [hne, if_pos rfl, if_neg c47]; rfl

end Go.Proofs.YtjgialebelndmaaDoor.PG
