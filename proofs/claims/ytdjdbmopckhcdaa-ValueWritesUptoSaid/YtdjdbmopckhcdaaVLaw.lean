/- Facts of the plain laws. -/
import Derived.Test.YtdjdbmopckhcdaaJoin
import Derived.Test.YtdjdbmopckhcdaaPVx1
namespace Go.Proofs.Ytdjdbmopckhcdaa.PV
open Go.RowKit Go.Proofs.YtdjdbmopckhcdaaW.PrintWords Go.Proofs.YtdjdbmopckhcdaaW.PrintLast Go.Proofs.YtdjdbmopckhcdaaW.PrintMore
open Go.Proofs Go.Proofs.Ytdjdbmopckhcdaa
set_option linter.unusedVariables false
set_option linter.unusedSimpArgs false
set_option maxHeartbeats 4000000
set_option maxRecDepth 100000

theorem escL_cases (b : UInt8) : (b = 10 ∧ escL b = [92, 110]) ∨ (b = 44 ∧ escL b = [92, 44]) ∨ (b = 59 ∧ escL b = [92, 59]) ∨ (b = 92 ∧ escL b = [92, 92]) ∨ (b ≠ 10 ∧ b ≠ 44 ∧ b ≠ 59 ∧ b ≠ 92 ∧ escL b = [b]) := by
  by_cases c1 : b = 10
  · subst c1; exact .inl ⟨rfl, rfl⟩
  · by_cases c2 : b = 44
    · subst c2; exact .inr (.inl ⟨rfl, rfl⟩)
    · by_cases c3 : b = 59
      · subst c3; exact .inr (.inr (.inl ⟨rfl, rfl⟩))
      · by_cases c4 : b = 92
        · subst c4; exact .inr (.inr (.inr (.inl ⟨rfl, rfl⟩)))
        · refine .inr (.inr (.inr (.inr ⟨c1, c2, c3, c4, ?_⟩)))
          have h := isE_iff b
          unfold isE at h
          unfold escL
          cases he : esc b.toNat with
          | none => rfl
          | some p => rw [he] at h; simp [c1, c2, c3, c4] at h
theorem spl_esc2 (sg x : UInt8) (r : List UInt8) : spl sg (92 :: x :: r) = (spl sg r).map (cHead [92, x]) := by
  conv => lhs; unfold spl
  rw [if_pos rfl]
theorem spl_one (sg b : UInt8) (r : List UInt8) (h1 : b ≠ 92) (h2 : b ≠ sg) : spl sg (b :: r) = (spl sg r).map (cHead [b]) := by
  conv => lhs; unfold spl
  rw [if_neg h1, if_neg h2]
theorem txt_esc2 (x : UInt8) (r : List UInt8) : txt (92 :: x :: r) = (one x).bind fun y => (txt r).map (y :: ·) := by
  conv => lhs; unfold txt
  rw [if_pos rfl]
theorem txt_one (b : UInt8) (r : List UInt8) (h1 : b ≠ 92) : txt (b :: r) = (txt r).map (b :: ·) := by
  conv => lhs; unfold txt
  rw [if_neg h1]
theorem spl_putL (sg : UInt8) (hsg : sg = 44 ∨ sg = 59) : ∀ l : List UInt8, spl sg (putL l) = some [putL l]
  | [] => by show spl sg [] = _; unfold spl; rfl
  | b :: l => by
    have ih := spl_putL sg hsg l
    rw [putL_cons]
    rcases escL_cases b with ⟨_, h⟩ | ⟨_, h⟩ | ⟨_, h⟩ | ⟨_, h⟩ | ⟨h10, h44, h59, h92, h⟩
    · rw [h]; show spl sg (92 :: 110 :: putL l) = _; rw [spl_esc2, ih]; rfl
    · rw [h]; show spl sg (92 :: 44 :: putL l) = _; rw [spl_esc2, ih]; rfl
    · rw [h]; show spl sg (92 :: 59 :: putL l) = _; rw [spl_esc2, ih]; rfl
    · rw [h]; show spl sg (92 :: 92 :: putL l) = _; rw [spl_esc2, ih]; rfl
    · rw [h]; show spl sg (b :: putL l) = _; rw [spl_one sg b _ h92 (by rcases hsg with e | e <;> rw [e] <;> assumption), ih]; rfl
theorem txt_putL : ∀ l : List UInt8, txt (putL l) = some l
  | [] => by show txt [] = _; unfold txt; rfl
  | b :: l => by
    have ih := txt_putL l
    rw [putL_cons]
    rcases escL_cases b with ⟨e, h⟩ | ⟨e, h⟩ | ⟨e, h⟩ | ⟨e, h⟩ | ⟨h10, h44, h59, h92, h⟩
    · rw [h, e]; show txt (92 :: 110 :: putL l) = _; rw [txt_esc2, ih]; rfl
    · rw [h, e]; show txt (92 :: 44 :: putL l) = _; rw [txt_esc2, ih]; rfl
    · rw [h, e]; show txt (92 :: 59 :: putL l) = _; rw [txt_esc2, ih]; rfl
    · rw [h, e]; show txt (92 :: 92 :: putL l) = _; rw [txt_esc2, ih]; rfl
    · rw [h]; show txt (b :: putL l) = _; rw [txt_one b _ h92, ih]; rfl
theorem list_putL (l : List UInt8) : listI 44 (putL l) = ([mkB l], 0) := by
  unfold listI
  rw [spl_putL 44 (.inl rfl)]
  simp [mapT, txt_putL]
theorem fields_putL (l : List UInt8) : fieldsI 59 (putL l) = ([[mkB l]], 0) := by
  have h : listO 44 (putL l) = some [mkB l] := by
    unfold listO
    rw [spl_putL 44 (.inl rfl)]
    simp [mapT, txt_putL]
  unfold fieldsI
  rw [spl_putL 59 (.inr rfl)]
  simp [mapF, h]
theorem cntE_le (l : List UInt8) : cntE l ≤ l.length := List.length_filter_le _ _
theorem mkB_size (l : List UInt8) : (mkB l).size = l.length := rfl
theorem mkB_data (x : ByteArray) : mkB x.data.toList = x := rfl
theorem mkB_list (l : List UInt8) : (mkB l).data.toList = l := rfl
theorem put_f (a : ByteArray) (h : a.size ≤ 1073741824) : value_PutText.f a = some (mkB (putL a.data.toList)) := by unfold value_PutText.f; rw [if_pos h]
theorem list_f (a : ByteArray) (h : a.size ≤ 1073741824) : value_List.f a = some (listI 44 a.data.toList) := by unfold value_List.f; rw [if_pos h]
theorem fields_f (a : ByteArray) (h : a.size ≤ 1073741824) : value_Fields.f a = some (fieldsI 59 a.data.toList) := by unfold value_Fields.f; rw [if_pos h]
theorem text_f (a : ByteArray) (h : a.size ≤ 1073741824) : value_Text.f a = some (txtI a.data.toList) := by unfold value_Text.f; rw [if_pos h]
theorem ba_list (x : ByteArray) : x.toList = x.data.toList := by rw [ByteArray.toList_eq] <;> rfl
theorem first_is : calepinlaw04_first.f = some true := by
  have e1 : txtI [97, 92, 44, 98, 92, 110, 99] = (mkB [97, 44, 98, 10, 99], 0) := by unfold txtI; simp [txt, one, mkB]
  have e2 : txtI [92, 120] = (mkB [], 31) := by unfold txtI; simp [txt, one, mkB]
  have e3 : putL [97, 59] = [97, 92, 59] := by simp [putL, escL, esc]
  unfold calepinlaw04_first.f
  rw [text_f _ (by decide), text_f _ (by decide), put_f _ (by decide)]
  show ((some (txtI [97, 92, 44, 98, 92, 110, 99])).bind fun bt102 => (some (txtI [92, 120])).bind fun bt104 => _) = _
  rw [e1, e2]
  simp only [Option.bind_some, ba_list, mkB_list]
  simp [e3]
theorem ba_append (x y : ByteArray) : (x ++ y).data.toList = x.data.toList ++ y.data.toList := by simp

end Go.Proofs.Ytdjdbmopckhcdaa.PV
