/- fold.piece walked: so many bytes of a text as go into a row. -/
import Derived.Test.YtkkbkdpfhbjliaaDoorAny2
namespace Go.Proofs.YtkkbkdpfhbjliaaDoor.PF
open Go.RowKit Go.Proofs.YtkkbkdpfhbjliaaDoorW.PrintWords Go.Proofs.YtkkbkdpfhbjliaaDoorW.PrintLast Go.Proofs.YtkkbkdpfhbjliaaDoorW.PrintMore
set_option linter.unusedVariables false
set_option linter.unusedSimpArgs false
set_option maxHeartbeats 4000000
set_option maxRecDepth 100000

open Go.Proofs Go.Lib
def mkB (l : List UInt8) : ByteArray := ⟨l.toArray⟩
theorem mkB_list (l : List UInt8) : (mkB l).data.toList = l := rfl
theorem mkB_size (l : List UInt8) : (mkB l).size = l.length := rfl
theorem ext_is (x : ByteArray) (a b : Nat) (hb : b ≤ x.size) : x.extract a b = mkB ((x.data.toList.take b).drop a) := by
  unfold mkB
  apply ByteArray.ext
  rw [ByteArray.data_extract]
  apply Array.toList_inj.1
  rw [Array.toList_extract]
  simp only [List.extract_eq_take_drop]
  rw [List.drop_take]
theorem ext_from (x : ByteArray) (a : Nat) : x.extract a x.size = mkB (x.data.toList.drop a) := by
  rw [ext_is x a x.size (Nat.le_refl _), List.take_of_length_le (show x.data.toList.length ≤ x.size from Nat.le_refl _)]
theorem ext_to (x : ByteArray) (a : Nat) (h : a ≤ x.size) : x.extract 0 a = mkB (x.data.toList.take a) := by
  rw [ext_is x 0 a h, List.drop_zero]
theorem tabs_below {w w' : World} (h : Lib.Utf8Tabs 1 2 w) (hb : Below w.heap.size w w') : Lib.Utf8Tabs 1 2 w' := by
  have lt : ∀ {p : Addr} {v : Value}, w.cell? p = some v → p.block < w.heap.size := fun {p v} hc => by
    obtain ⟨b, o, s⟩ := p
    simp only [World.cell?] at hc
    cases hh : w.heap[b]? with
    | none => rw [hh] at hc; cases hc
    | some x => exact (Array.getElem?_eq_some_iff.1 hh).1
  refine ⟨fun c hc => ?_, fun i hi => ⟨?_, ?_⟩⟩
  · rw [hb.cell (lt (h.1 c hc))]; exact h.1 c hc
  · rw [hb.cell (lt (h.2 i hi).1)]; exact (h.2 i hi).1
  · rw [hb.cell (lt (h.2 i hi).2)]; exact (h.2 i hi).2
theorem decodeGo_sz (s : ByteArray) (h : s.data.toList ≠ []) : (Lib.decodeGo s).2 = sz s.data.toList := by
  unfold Lib.decodeGo
  rw [if_neg (by intro e; exact h (List.eq_nil_of_length_eq_zero e)), decode_sz, List.drop_zero]
set_option maxHeartbeats 8000000 in
theorem piece_calls (a0 : ByteArray) (most : Nat) (hm : most ≤ 1000) (hs : a0.size ≤ 1073741824) (w : World) (hT : Lib.Utf8Tabs 1 2 w) :
    Calls Tryd.prog 19 #[.string a0, .int .i64 (most : Int)] w fun e w' => e = .returned (.string (mkB (a0.data.toList.take (piece most a0.data.toList)))) ∧ Below w.heap.size w w' := by
  obtain ⟨l, hl⟩ : ∃ l, l = a0.data.toList := ⟨_, rfl⟩
  have hll : l.length = a0.size := by rw [hl]; rfl
  have HL := Aside0.mk (And.intro hl (And.intro hll (And.intro hs hm)))
  have HT := Aside0.mk hT
  have hpl := piece_le most l
  obtain ⟨P, hP⟩ : ∃ P, piece most l = P := ⟨_, rfl⟩
  have hres : mkB (l.take P) = a0.extract 0 P := by rw [hl]; exact (ext_to a0 P (by omega)).symm
  rw [← hl, hP, hres]
  have HP := Aside0.mk (And.intro hP (show P ≤ a0.size by omega))
  clear hl hll hs hm hT hP hpl hres
  go_enter Tryd.func19, Tryd.ntmps19
  go_wp2_with fail
  go_loopw [5] (fun v5 wr => ∃ (n : Nat), v5 = .int .i64 (n : Int) ∧ Aside0 (n ≤ a0.size ∧ P = pc most l.length (l.drop n) n) ∧ Aside0 (Below w.heap.size w wr)) (fun v5 _ => a0.size - (RowKit.intOf v5).toNat)
  case atStart => exact ⟨0, rfl, ⟨Nat.zero_le _, by rw [List.drop_zero]; exact HP.out.1.symm⟩, ⟨Below.refl _ _⟩⟩
  case round =>
    obtain ⟨n, rfl, HN, HB⟩ := hrel
    by_cases hn : n < a0.size
    · have d1 : decide ((n : Int) < (a0.size : Int)) = true := decide_eq_true (by omega)
      have d2 : decide (n < a0.size) = true := decide_eq_true hn
      have e1 : (n ≤ a0.size) = True := eq_true (by omega)
      have e2 : ((n : Int) ≤ (a0.size : Int)) = True := eq_true (by omega)
      obtain ⟨x, hx⟩ : ∃ x, a0.extract n a0.size = x := ⟨_, rfl⟩
      have hxl : x.data.toList = l.drop n := by rw [← hx, ext_from, mkB_list, HL.out.1]
      have hne : l.drop n ≠ [] := by intro e; have h := congrArg List.length e; rw [List.length_drop, HL.out.2.1] at h; simp at h; omega
      have HD := Aside0.mk (fun w' hT => Tryd.utf8_DecodeRuneInString x w' hT)
      rw [decodeGo_sz x (by rw [hxl]; exact hne), hxl] at HD
      obtain ⟨z, hz⟩ : ∃ z, sz (l.drop n) = z := ⟨_, rfl⟩
      have hz1 := sz_pos (l.drop n)
      have hz2 := sz_le (l.drop n) hne
      have hz4 := sz_le4 (l.drop n)
      have hst := pc_step most l.length (l.drop n) n hne (by rw [List.length_drop]; omega)
      rw [List.length_drop, HL.out.2.1] at hz2
      rw [hz] at HD hz1 hz2 hz4 hst
      rw [List.drop_drop] at hst
      generalize (Lib.decodeGo x).1 = rn at *
      have hw : wrap64 ((n : Int) + (z : Int)) = ((n + z : Nat) : Int) := by have := HL.out.2.2.1; unfold wrap64; omega
      have HZ := Aside0.mk (And.intro hz1 (And.intro hz2 (And.intro hz4 hn)))
      by_cases hc : 0 < n ∧ most < n + z
      · rw [if_pos hc] at hst
        have HE := Aside0.mk (show P = n by rw [HN.out.2, hst])
        have d3 : decide ((0 : Int) < (n : Int)) = true := decide_eq_true (by omega)
        have d4 : decide ((most : Int) < ((n + z : Nat) : Int)) = true := decide_eq_true (by omega)
        have d5 : decide (0 < n) = true := decide_eq_true (by omega)
        have d6 : decide (most < n + z) = true := decide_eq_true (by omega)
        have d7 : decide ((most : Int) < (n : Int) + (z : Int)) = true := decide_eq_true (by omega)
        clear hst hc hz hz1 hz2 hz4 hne hxl hn
        go_wp2_with fail
        refine (HD.out _ (tabs_below HT.out HB.out)).mono ?_
        rintro _ w2 ⟨rfl, hb⟩
        have HB2 := Aside0.mk (HB.out.trans (hb.mono HB.out.size))
        clear hb HD
        go_wp2_with fail
        go_ret
        rw [HE.out]
        exact ⟨rfl, HB2.out⟩
      · rw [if_neg hc] at hst
        have HE := Aside0.mk (show P = pc most l.length (l.drop (n + z)) (n + z) by rw [HN.out.2, hst])
        by_cases h0 : 0 < n
        · have d3 : decide ((0 : Int) < (n : Int)) = true := decide_eq_true (by omega)
          have d4 : decide ((most : Int) < ((n + z : Nat) : Int)) = false := decide_eq_false (by omega)
          have d5 : decide (0 < n) = true := decide_eq_true (by omega)
          have d6 : decide (most < n + z) = false := decide_eq_false (by omega)
          have d7 : decide ((most : Int) < (n : Int) + (z : Int)) = false := decide_eq_false (by omega)
          clear hst hc hz hz1 hz2 hz4 hne hxl hn h0
          go_wp2_with fail
          refine (HD.out _ (tabs_below HT.out HB.out)).mono ?_
          rintro _ w2 ⟨rfl, hb⟩
          have HB2 := Aside0.mk (HB.out.trans (hb.mono HB.out.size))
          clear hb HD
          go_wp2_with fail
          go_roundw
          case rel => exact ⟨n + z, by first | rfl | rw [hw] | (congr 1), ⟨by have := HZ.out; omega, HE.out⟩, HB2⟩
          case measure => first | (rw [hw]; have := HZ.out; show a0.size - (n + z) < a0.size - n; omega) | (have := HZ.out; show a0.size - (n + z) < a0.size - n; omega)
        · have d3 : decide ((0 : Int) < (n : Int)) = false := decide_eq_false (by omega)
          have d5 : decide (0 < n) = false := decide_eq_false h0
          clear hst hc hz hz1 hz2 hz4 hne hxl hn h0
          go_wp2_with fail
          refine (HD.out _ (tabs_below HT.out HB.out)).mono ?_
          rintro _ w2 ⟨rfl, hb⟩
          have HB2 := Aside0.mk (HB.out.trans (hb.mono HB.out.size))
          clear hb HD
          go_wp2_with fail
          go_roundw
          case rel => exact ⟨n + z, by first | rfl | rw [hw] | (congr 1), ⟨by have := HZ.out; omega, HE.out⟩, HB2⟩
          case measure => first | (rw [hw]; have := HZ.out; show a0.size - (n + z) < a0.size - n; omega) | (have := HZ.out; show a0.size - (n + z) < a0.size - n; omega)
    · have d1 : decide ((n : Int) < (a0.size : Int)) = false := decide_eq_false (by omega)
      have d2 : decide (n < a0.size) = false := decide_eq_false hn
      have HE := Aside0.mk (show P = n by
        have h := HN.out.2
        have hd : l.drop n = [] := List.drop_of_length_le (by rw [HL.out.2.1]; omega)
        rw [hd] at h
        rw [h]
        cases l.length <;> rfl)
      have e1 : (n ≤ a0.size) = True := eq_true HN.out.1
      have e2 : ((n : Int) ≤ (a0.size : Int)) = True := eq_true (by have := HN.out.1; omega)
      clear hn
      go_wp2_with fail
      go_ret
      rw [HE.out]
      exact ⟨rfl, HB.out⟩

end Go.Proofs.YtkkbkdpfhbjliaaDoor.PF
