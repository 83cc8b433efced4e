/- strings.IndexAny, ContainsAny of ASCII signs over whatever text. -/
import Derived.Test.YtkkbkdpfhbjliaaDoorAny
import Derived.Test.YtkkbkdpfhbjliaaDoorCharL
import Derived.Lib.OthersKept
namespace Go.Proofs.YtkkbkdpfhbjliaaDoor.PF
open Go.RowKit Go.Proofs.YtkkbkdpfhbjliaaDoorW.PrintWords Go.Proofs.YtkkbkdpfhbjliaaDoorW.PrintLast Go.Proofs.YtkkbkdpfhbjliaaDoorW.PrintMore
set_option linter.unusedVariables false
set_option linter.unusedSimpArgs false
set_option maxHeartbeats 4000000
set_option maxRecDepth 100000

open Go.Proofs Go.Lib
theorem get!_getD (s : ByteArray) (k : Nat) : s.get! k = s.data.toList.getD k 0 := by
  rw [List.getD_eq_getElem?_getD, Array.getElem?_toList]
  show s.data[k]! = _
  rw [getElem!_def]
  cases s.data[k]? <;> rfl
theorem decode_sz (s : ByteArray) (i : Nat) : (Utf8.decode s i).2 = sz (s.data.toList.drop i) := by
  rw [Lib.decode_at]
  unfold sz szN
  have hl : s.size = s.data.toList.length := rfl
  simp only [get!_getD, List.getD_eq_getElem?_getD, List.getElem?_drop, List.length_drop, Nat.add_zero]
  rw [hl]
theorem decodeN_high (n b0 b1 b2 b3 : Nat) (h : 128 ≤ b0) : 128 ≤ (decodeN n b0 b1 b2 b3).1 := by
  unfold decodeN
  rw [if_neg (by omega)]
  repeat' split
  all_goals first | decide | (simp only; omega)
theorem decodeN_top (n b0 b1 b2 b3 : Nat) (h : 128 ≤ b0) : (decodeN n b0 b1 b2 b3).1 ≤ 1114111 := by
  unfold decodeN
  rw [if_neg (by omega)]
  repeat' split
  all_goals first | decide | (simp only; omega)
theorem decode_high (s : ByteArray) (i : Nat) (h : 128 ≤ (s.get! i).toNat) : 128 ≤ (Utf8.decode s i).1 ∧ (Utf8.decode s i).1 ≤ 1114111 := by
  rw [Lib.decode_at]
  exact ⟨decodeN_high _ _ _ _ _ h, decodeN_top _ _ _ _ _ h⟩
theorem noany_char {s chars : ByteArray} {i : Nat} (hc : Ascii chars) (hi : i < s.size) (hx : 128 ≤ (s.data.toList[i]'hi).toNat) (h : Lib.NoAny s.data.toList chars.data.toList i) :
    i + (Utf8.decode s i).2 ≤ s.size ∧ 1 ≤ (Utf8.decode s i).2 ∧ Lib.NoAny s.data.toList chars.data.toList (i + (Utf8.decode s i).2) := by
  rw [decode_sz]
  have hlen : (s.data.toList.drop i).length = s.size - i := by rw [List.length_drop]; rfl
  have hne : s.data.toList.drop i ≠ [] := by intro e; rw [e] at hlen; simp at hlen; omega
  have h1 := sz_pos (s.data.toList.drop i)
  have h2 := sz_le _ hne
  refine ⟨by omega, h1, fun j b hj hb => ?_⟩
  by_cases hji : j < i
  · exact h j b hji hb
  · have hb128 : 128 ≤ b.toNat := by
      by_cases h2 : 2 ≤ sz (s.data.toList.drop i)
      · have hs := (sz_same _ ((s.data.toList.drop i).take (sz (s.data.toList.drop i))) ((s.data.toList.drop i).drop (sz (s.data.toList.drop i))) (List.take_append_drop _ _).symm (by rw [List.length_take]; omega) h2).1
        refine hs b (List.mem_iff_getElem?.2 ⟨j - i, ?_⟩)
        rw [List.getElem?_take, if_pos (by omega), List.getElem?_drop, show i + (j - i) = j by omega]
        exact hb
      · have : j = i := by omega
        subst this
        rw [List.getElem?_eq_getElem hi] at hb
        injection hb with hb
        rw [← hb]
        exact hx
    rw [← Bool.not_eq_true]
    intro e
    obtain ⟨k, hk⟩ := List.mem_iff_getElem?.1 (show b ∈ chars.data.toList by simpa using e)
    have := hc k b hk
    omega
set_option maxHeartbeats 8000000 in
theorem indexAny_short (s chars : ByteArray) (w : World) (h2 : 2 ≤ chars.size) (hcs : chars.size ≤ 1073741824) (h8 : s.size ≤ 8) (hc : Ascii chars) :
    Calls Tryd.prog 29 #[.string s, .string chars] w fun e w' => e = .returned (.int .i64 (Lib.indexAny s.data.toList chars.data.toList)) ∧ Below w.heap.size w w' := by
  have HA := Aside0.mk hc
  clear hc
  have hemp : chars.toList.isEmpty = false := by
    rw [Lib.toList_data]
    cases h : chars.data.toList with
    | nil => have := Lib.size_eq chars; rw [h, List.length_nil] at this; omega
    | cons _ _ => rfl
  have hn1 : ((chars.size : Int) == 1) = false := beq_eq_false_iff_ne.2 (by omega)
  have h8z : decide ((8 : Int) < (s.size : Int)) = false := decide_eq_false (by omega)
  have HS := Aside0.mk (Tryd.strings_shouldUseASCIISet (s.size : Int) w)
  rw [h8z] at HS
  have H8 := Aside0.mk (And.intro h8 hcs)
  clear h8 h2 h8z hcs
  go_enter Tryd.func29, Tryd.ntmps29
  go_wp2_with fail
  refine HS.out.mono ?_
  rintro _ w' ⟨rfl, hw⟩
  rw [hw]
  clear hw HS
  go_wp2_with fail
  go_loopg [9, 10] s.size (fun g _ _ wx => ∃ i : Nat, i ≤ s.size ∧ s.size ≤ i + g ∧ Aside0 (Below w.heap.size w wx) ∧ Aside0 (wx.heap[w.heap.size]? = some (.stringIter s i)) ∧ Aside0 (Lib.NoAny s.data.toList chars.data.toList i))
  case atStart => exact ⟨0, by omega, by omega, ⟨(Below.refl _ _).alloc (Nat.le_refl _) _⟩, ⟨World.iter_heap _ _ _⟩, ⟨Lib.NoAny.zero _ _⟩⟩
  case round =>
    obtain ⟨i, hi0, hig, HB, HI, HN⟩ := hrel
    by_cases hi : i < s.size
    · cases gk with
      | zero => omega
      | succ g =>
        obtain ⟨x, hx⟩ : ∃ x : UInt8, s.data.toList[i]'hi = x := ⟨_, rfl⟩
        have hxl : s.data.toList[i]? = some x := by rw [← hx]; exact List.getElem?_eq_getElem hi
        have hsx : s[i]'hi = x := hx
        by_cases hx1 : x.toNat < 128
        · have hnx := fun ty => run_next_ascii_at (P := Tryd.prog) wr w.heap.size s i ty HI.out hi (by rw [hsx]; exact hx1)
          rw [hsx] at hnx
          have HB2 := Aside0.mk (below_iterAt HB.out (Nat.le_refl _) s (i + 1))
          have HI2 := Aside0.mk (iterAt_heap wr w.heap.size s i (i + 1) HI.out)
          have HSZ := Aside0.mk (iterAt_size wr w.heap.size s (i + 1))
          generalize wr.iterAt w.heap.size s (i + 1) = w2 at *
          have HRU := Aside0.mk (Tryd.strings_IndexRune_ascii chars (x.toNat : Int) w2 (by omega) (by omega))
          have hback : ((x.toNat : Int)).toNat.toUInt8 = x := by simp
          rw [hback] at HRU
          have Hx := Aside0.mk hxl
          have HG := Aside0.mk (And.intro hi hig)
          have hcon := Lib.contains_iff_indexByte chars.data.toList x
          clear hxl hx hsx hx1 hback hi hig hi0
          cases hin : chars.data.toList.contains x
          · rw [hin] at hcon
            have hlt : decide ((0 : Int) ≤ Lib.indexByte chars.data.toList x) = false := hcon.symm
            have HIN := Aside0.mk hin
            clear hcon hin
            go_wp2_with fail
            refine HRU.out.mono ?_
            rintro _ w' ⟨rfl, hw⟩
            rw [hw]
            clear hw
            go_wp2_with fail
            go_roundg g
            case measure => omega
            case rel => exact ⟨i + 1, by have := HG.out; omega, by have := HG.out; omega, HB2, HI2, ⟨HN.out.succ Hx.out HIN.out⟩⟩
          · rw [hin] at hcon
            have hlt : decide ((0 : Int) ≤ Lib.indexByte chars.data.toList x) = true := hcon.symm
            have HIN := Aside0.mk hin
            clear hcon hin
            go_wp2_with fail
            refine HRU.out.mono ?_
            rintro _ w' ⟨rfl, hw⟩
            rw [hw]
            clear hw
            go_wp2_with fail
            go_ret
            exact ⟨by rw [Lib.indexAny_hit HN.out Hx.out HIN.out]; rfl, HB2.out⟩
        · have hx2 : 128 ≤ x.toNat := by omega
          obtain ⟨hr1, hr2⟩ := decode_high s i (by rw [get!_getD, List.getD_eq_getElem?_getD, hxl]; exact hx2)
          obtain ⟨hn1, hn2, hn3⟩ := noany_char HA.out hi (by rw [hx]; exact hx2) HN.out
          have hnx := fun ty => run_next_any_at (P := Tryd.prog) wr w.heap.size s i ty HI.out hi
          obtain ⟨rn, hrn⟩ : ∃ rn, (Utf8.decode s i).1 = rn := ⟨_, rfl⟩
          obtain ⟨i2, hi2⟩ : ∃ i2, i + (Utf8.decode s i).2 = i2 := ⟨_, rfl⟩
          have hi3 : i < i2 := by omega
          rw [hrn] at hr1 hr2 hnx
          rw [hi2] at hn1 hn3 hnx
          have HB2 := Aside0.mk (below_iterAt HB.out (Nat.le_refl _) s i2)
          have HI2 := Aside0.mk (iterAt_heap wr w.heap.size s i i2 HI.out)
          have HSZ := Aside0.mk (iterAt_size wr w.heap.size s i2)
          generalize wr.iterAt w.heap.size s i2 = w2 at *
          have HRU := Aside0.mk (rune_none chars (rn : Int) w2 HA.out (by have := H8.out.2; omega) (by omega) (by omega))
          have HN2 := Aside0.mk hn3
          have HG := Aside0.mk (And.intro hn1 (And.intro hi3 (And.intro hi hig)))
          have HL := Aside0.mk (show w.heap.size < w2.heap.size from (Array.getElem?_eq_some_iff.1 HI2.out).1)
          clear hxl hx hsx hx1 hx2 hr1 hr2 hn1 hn2 hn3 hrn hi2 hi3 hi hig hi0
          go_wp2_with fail
          refine HRU.out.mono ?_
          rintro _ w' ⟨rfl, hw⟩
          have HB3 := Aside0.mk (HB2.out.trans (hw.mono (Nat.le_of_lt HL.out)))
          have HI3 := Aside0.mk ((hw.block _ HL.out).trans HI2.out)
          clear hw HRU
          go_wp2_with fail
          go_roundg g
          case measure => omega
          case rel => exact ⟨i2, by have := HG.out; omega, by have := HG.out; omega, HB3, HI3, HN2⟩
    · have hie : i = s.size := by omega
      have hnx := fun ty => run_next_end_at (P := Tryd.prog) wr w.heap.size s i ty HI.out hi
      subst hie
      clear hi hig hi0
      go_wp2_with fail
      go_ret
      exact ⟨by rw [Lib.indexAny_none (by rw [← Lib.size_eq]; exact HN.out)]; rfl, HB.out⟩
theorem size_big (s : ByteArray) : s.data.toList.length = s.size := rfl
theorem indexAny_calls (s chars : ByteArray) (w : World) (h2 : 2 ≤ chars.size) (hcs : chars.size ≤ 1073741824) (hs : s.size ≤ 1073741824) (hc : Ascii chars) :
    Calls Tryd.prog 29 #[.string s, .string chars] w fun e w' => e = .returned (.int .i64 (Lib.indexAny s.data.toList chars.data.toList)) ∧ Below w.heap.size w w' := by
  by_cases h8 : s.size ≤ 8
  · exact indexAny_short s chars w h2 hcs h8 hc
  · refine (Tryd.strings_IndexAny_long (zero_of_info (P := Tryd.prog) (t := 62) (v := .agg (Array.replicate 256 (.bool false))) (n := 256) (by kernel_rfl)).1 s chars w h2 (by omega) (by omega) (by omega) hc).mono fun e w' ⟨h1, h2⟩ => ⟨h1, ?_⟩
    rw [h2]
    exact ((Below.refl _ _).alloc (Nat.le_refl _) _).alloc (by simp) _
theorem any_iff (chars : List UInt8) : ∀ s : List UInt8, decide (0 ≤ Lib.indexAny s chars) = decide (∃ c ∈ chars, c ∈ s)
  | [] => by simp [Lib.indexAny]
  | b :: l => by
    have ih := any_iff chars l
    have hge := Lib.indexAny_ge chars l
    unfold Lib.indexAny
    by_cases hb : b ∈ chars
    · rw [if_pos (by simpa using hb)]
      exact (decide_eq_true (Int.le_refl 0)).trans (decide_eq_true ⟨b, hb, List.mem_cons_self⟩).symm
    · rw [if_neg (by simpa using hb)]
      have h2 : (∃ c ∈ chars, c ∈ b :: l) = (∃ c ∈ chars, c ∈ l) := propext ⟨fun ⟨c, h1, h3⟩ => ⟨c, h1, (List.mem_cons.1 h3).resolve_left (fun e => hb (e ▸ h1))⟩, fun ⟨c, h1, h3⟩ => ⟨c, h1, List.mem_cons_of_mem _ h3⟩⟩
      simp only [h2]
      rw [← ih]
      by_cases hm : Lib.indexAny l chars = -1
      · rw [if_pos (by rw [hm]; rfl), hm]
      · rw [if_neg (by simpa using hm)]
        congr 1
        exact propext ⟨fun h => by omega, fun h => by omega⟩
def strings_ContainsAny.f (a0 a1 : ByteArray) : Option Bool := if (2 ≤ a1.size ∧ a1.size ≤ 16 ∧ a1.data.toList.all fun b => decide (b.toNat < 128)) ∧ a0.size ≤ 1073741824 then some (containsC a0 a1) else none
theorem strings_ContainsAny.calls (a0 a1 : ByteArray) (r : Bool) (w : World) (h : strings_ContainsAny.f a0 a1 = some r) :
    Calls Tryd.prog 23 #[.string a0, .string a1] w fun e w' => e = .returned (.bool r) ∧ Below w.heap.size w w' := by
  unfold strings_ContainsAny.f at h
  by_cases hs : (2 ≤ a1.size ∧ a1.size ≤ 16 ∧ a1.data.toList.all fun b => decide (b.toNat < 128)) ∧ a0.size ≤ 1073741824
  · rw [if_pos hs] at h
    injection h with h
    subst h
    have hI := indexAny_calls a0 a1 w hs.1.1 (by have := hs.1.2.1; omega) hs.2 (fun j b hj => by
      have := List.all_eq_true.1 hs.1.2.2 b (List.mem_of_getElem? hj)
      exact of_decide_eq_true this)
    have HE := Aside0.mk (show decide (0 ≤ Lib.indexAny a0.data.toList a1.data.toList) = containsC a0 a1 by rw [any_iff]; unfold containsC; rfl)
    have HI := Aside0.mk hI
    clear hI hs
    generalize Lib.indexAny a0.data.toList a1.data.toList = q at *
    generalize containsC a0 a1 = res at *
    go_enter Tryd.func23, Tryd.ntmps23
    go_wp2_with fail
    refine HI.out.mono ?_
    rintro _ w' ⟨rfl, hw⟩
    have HB := Aside0.mk hw
    clear hw HI
    go_wp2_with fail
    go_ret
    exact ⟨by rw [← HE.out]; rfl, HB.out⟩
  · rw [if_neg hs] at h; cases h

end Go.Proofs.YtkkbkdpfhbjliaaDoor.PF
