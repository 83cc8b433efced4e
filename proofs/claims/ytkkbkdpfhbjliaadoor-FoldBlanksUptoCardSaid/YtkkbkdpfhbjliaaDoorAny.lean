/- strings.IndexRune at a rune that is no ASCII, over an ASCII text: there is none. -/
import Derived.Test.YtkkbkdpfhbjliaaDoorStr
import Derived.Deep.QuietTactic
import Derived.BigQuiet
import Derived.BigRegion
import Derived.Deep.RegionWith
namespace Go.Proofs.YtkkbkdpfhbjliaaDoor.PF
open Go.RowKit Go.Proofs.YtkkbkdpfhbjliaaDoorW.PrintWords Go.Proofs.YtkkbkdpfhbjliaaDoorW.PrintLast Go.Proofs.YtkkbkdpfhbjliaaDoorW.PrintMore
set_option linter.unusedVariables false
set_option linter.unusedSimpArgs false
set_option maxHeartbeats 4000000
set_option maxRecDepth 100000

open Go.Proofs Go.Lib
theorem enc_high (r : Int) (h : 128 ≤ r) : 2 ≤ (Utf8.encode r).size ∧ (Utf8.encode r).size ≤ 4 ∧ ∃ h : (Utf8.encode r).size - 1 < (Utf8.encode r).size, 128 ≤ ((Utf8.encode r)[(Utf8.encode r).size - 1]'h).toNat := by
  obtain ⟨c, hc⟩ : ∃ c, c = if Utf8.valid r then r.toNat else Utf8.runeError := ⟨_, rfl⟩
  have hc1 : 128 ≤ c := by rw [hc]; split; omega; decide
  have hbyte : ∀ n : Nat, (UInt8.ofNat (0x80 + n % 64)).toNat = 128 + n % 64 := fun n => by
    rw [UInt8.toNat_ofNat']; omega
  have key : ∀ e : ByteArray, e = Utf8.encode r → 2 ≤ e.size ∧ e.size ≤ 4 ∧ ∃ h : e.size - 1 < e.size, 128 ≤ (e[e.size - 1]'h).toNat := by
    intro e he
    unfold Utf8.encode at he
    simp only [← hc] at he
    rw [if_neg (by omega)] at he
    by_cases c1 : c < 0x800
    · rw [if_pos c1] at he
      subst he
      exact ⟨(show (2 : Nat) ≤ 2 by decide), (show (2 : Nat) ≤ 4 by decide), (show (1 : Nat) < 2 by decide), by show 128 ≤ (UInt8.ofNat (0x80 + c % 64)).toNat; rw [hbyte]; omega⟩
    · rw [if_neg c1] at he
      by_cases c2 : c < 0x10000
      · rw [if_pos c2] at he
        subst he
        exact ⟨(show (2 : Nat) ≤ 3 by decide), (show (3 : Nat) ≤ 4 by decide), (show (2 : Nat) < 3 by decide), by show 128 ≤ (UInt8.ofNat (0x80 + c % 64)).toNat; rw [hbyte]; omega⟩
      · rw [if_neg c2] at he
        subst he
        exact ⟨(show (2 : Nat) ≤ 4 by decide), (show (4 : Nat) ≤ 4 by decide), (show (3 : Nat) < 4 by decide), by show 128 ≤ (UInt8.ofNat (0x80 + c % 64)).toNat; rw [hbyte]; omega⟩
  exact key _ rfl
def Ascii (s : ByteArray) : Prop := ∀ (j : Nat) (b : UInt8), s.data.toList[j]? = some b → b.toNat < 128
theorem index_high (l : List UInt8) (x : UInt8) (hx : 128 ≤ x.toNat) (h : ∀ b ∈ l, b.toNat < 128) : Lib.indexByte l x = -1 := by
  have h1 := Lib.contains_iff_indexByte l x
  have h2 : l.contains x = false := by
    rw [← Bool.not_eq_true]
    intro e
    have := h x (by simpa using e)
    omega
  rw [h2] at h1
  have := of_decide_eq_false h1.symm
  have := Lib.indexByte_ge l x
  omega
set_option maxHeartbeats 8000000 in
theorem rune_none (s : ByteArray) (r : Int) (w : World) (ha : Ascii s) (hs : s.size ≤ 140737488355328) (hr : 128 ≤ r) (hr2 : r ≤ 1114111) :
    Calls Tryd.prog 34 #[.string s, .int .i32 r] w fun e w' => e = .returned (.int .i64 (-1)) ∧ Below w.heap.size w w' := by
  have HA := Aside0.mk ha
  have HS := Aside0.mk hs
  clear ha hs
  have d1 : decide (0 ≤ r) = true := decide_eq_true (by omega)
  have d2 : decide (r < 128) = false := decide_eq_false (by omega)
  have HR := Aside0.mk (And.intro hr hr2)
  clear hr hr2
  by_cases h0 : r = 65533
  · subst h0
    clear d1 d2
    go_enter Tryd.func34, Tryd.ntmps34
    go_wp2_with fail
    go_loopg [5, 6] s.size (fun g _ _ wx => ∃ i : Nat, i + g = s.size ∧ wx = w.iter s i)
    case atStart => exact ⟨0, by omega, rfl⟩
    case round =>
      obtain ⟨i, hig, rfl⟩ := hrel
      cases gk with
      | zero =>
        obtain rfl : i = s.size := by omega
        have hnx := run_next_end (P := Tryd.prog) w s s.size
        go_wp2_with fail
        go_ret
        exact ⟨rfl, (Below.refl _ _).alloc (Nat.le_refl _) _⟩
      | succ g =>
        have hi : i < s.size := by omega
        obtain ⟨x, hx⟩ : ∃ x : UInt8, s[i]'hi = x := ⟨_, rfl⟩
        have hxl : s.data.toList[i]? = some x := by rw [← hx]; exact Lib.data_getElem? s i hi
        have hx128 : x.toNat < 128 := HA.out i x hxl
        have hnx := fun ty => run_next_ascii (P := Tryd.prog) w s i ty hi (by rw [hx]; exact hx128)
        rw [hx] at hnx
        have hne : ((x.toNat : Int) == 65533) = false := beq_eq_false_iff_ne.2 (by omega)
        clear hxl hx hx128
        go_wp2_with fail
        go_roundg g
        case measure => omega
        case rel => exact ⟨i + 1, by omega, rfl⟩
  · have h1 : (r == 65533) = false := beq_eq_false_iff_ne.2 h0
    clear h0
    have HV := Aside0.mk (Tryd.utf8_ValidRune r w)
    cases hv : Lib.validRune r with
    | false =>
      rw [hv] at HV
      clear hv
      go_enter Tryd.func34, Tryd.ntmps34
      go_wp2_with fail
      refine HV.out.mono ?_
      rintro _ w' ⟨rfl, hw⟩
      rw [hw]
      clear hw
      go_wp2_with fail
      go_ret
      exact ⟨rfl, Below.refl _ _⟩
    | true =>
      rw [hv] at HV
      clear hv
      obtain ⟨hn2, hn4, hlt, hx⟩ := enc_high r HR.out.1
      generalize hre : Utf8.encode r = rs at *
      obtain ⟨last, hl⟩ : ∃ last, last = rs.size - 1 := ⟨_, rfl⟩
      have hlz : rs.size = last + 1 := by omega
      have hla : last < rs.size := by omega
      obtain ⟨x, hxe⟩ : ∃ x : UInt8, rs[last]'hla = x := ⟨_, rfl⟩
      have hxx : rs[last]'hla = rs[rs.size - 1]'hlt := by simp only [hl]
      have HX := Aside0.mk (show 128 ≤ x.toNat by rw [← hxe, hxx]; exact hx)
      clear hxx
      have HL := Aside0.mk (And.intro hlz (show last ≤ 3 by omega))
      have hw1 : wrap64 ((rs.size : Int) - 1) = (last : Int) := by unfold wrap64; omega
      have hat : ∀ h : last < rs.size, rs[last]'h = x := fun _ => hxe
      have e4 : ((last : Int) < (rs.size : Int)) = True := eq_true (by omega)
      have e5 : (0 ≤ (last : Int)) = True := eq_true (by omega)
      clear hx hlt hn2 hn4 hl hlz hxe
      by_cases hls : last < s.size
      · obtain ⟨y, hy⟩ : ∃ y : UInt8, s[last]'hls = y := ⟨_, rfl⟩
        have hyl : y.toNat < 128 := HA.out last y (by rw [← hy]; exact Lib.data_getElem? s last hls)
        have hne : ((y.toNat : Int) == (x.toNat : Int)) = false := beq_eq_false_iff_ne.2 (by have := HX.out; omega)
        have hne2 : ((y.toNat : Int) != (x.toNat : Int)) = true := bne_iff_ne.2 (by have := HX.out; omega)
        have hat2 : ∀ h : last < s.size, s[last]'h = y := fun _ => hy
        have dl : decide ((last : Int) < (s.size : Int)) = true := decide_eq_true (by omega)
        have dl2 : decide (last < s.size) = true := decide_eq_true hls
        have e6 : ((last : Int) < (s.size : Int)) = True := eq_true (by omega)
        have hw2 : wrap64 ((last : Int) + 1) = ((last + 1 : Nat) : Int) := by have := HL.out.2; unfold wrap64; omega
        have hw3 : IntKind.i64.wrap ((last : Int) + 1) = ((last + 1 : Nat) : Int) := by have := HL.out.2; rw [IntKind.wrap_i64]; omega
        have e7 : (0 ≤ ((last + 1 : Nat) : Int)) = True := eq_true (by omega)
        have e8 : (((last + 1 : Nat) : Int) ≤ (s.size : Int)) = True := eq_true (by omega)
        have e9 : (last + 1 ≤ s.size) = True := eq_true (by omega)
        have hix : Lib.indexByte (s.extract (last + 1) s.size).data.toList (((x.toNat : Int)).toNat.toUInt8) = -1 := by
          rw [show ((x.toNat : Int)).toNat.toUInt8 = x by simp]
          refine index_high _ x HX.out (fun b hb => ?_)
          have hb2 : b ∈ s.data.toList := by
            rw [ByteArray.data_extract, Array.toList_extract, List.extract_eq_take_drop] at hb
            exact List.mem_of_mem_drop (List.mem_of_mem_take hb)
          obtain ⟨j, hj⟩ := List.mem_iff_getElem?.1 hb2
          exact HA.out j b hj
        have HIX := Aside0.mk (fun w => Tryd.strings_IndexByte (s.extract (last + 1) s.size) (x.toNat : Int) w)
        rw [hix] at HIX
        clear hix hyl hy
        go_enter Tryd.func34, Tryd.ntmps34
        go_wp2_with fail
        refine HV.out.mono ?_
        rintro _ w' ⟨rfl, hw⟩
        rw [hw]
        clear hw HV
        go_wp2_with fail
        go_step3
        go_wp2_with fail
        simp only [hw1]
        go_loopg [9] 1 (fun g v9 wx => v9 = .int .i64 (last : Int) ∧ wx = w)
        case atStart => exact ⟨by first | rfl | simp [*], rfl⟩
        case round =>
          obtain ⟨rfl, rfl⟩ := hrel
          go_wp2_with fail
          go_step3
          go_wp2_with fail
          go_region
          all_goals go_wp2_with fail
          all_goals go_region_with ((go_at_call 42; refine (HIX.out _).mono ?_; rintro e w' ⟨rfl, hw⟩; rw [hw]))
          all_goals go_wp2_with fail
          all_goals (simp only [Exit.then, Exit.inBlock, Exit.noGoto_ret])
          all_goals go_ret
          all_goals exact ⟨rfl, by repeat (first | exact Below.refl _ _ | apply below_drew1 | apply pw_below_drewN)⟩
      · have dl : decide ((last : Int) < (s.size : Int)) = false := decide_eq_false (by omega)
        have dl2 : decide (last < s.size) = false := decide_eq_false hls
        go_enter Tryd.func34, Tryd.ntmps34
        go_wp2_with fail
        refine HV.out.mono ?_
        rintro _ w' ⟨rfl, hw⟩
        rw [hw]
        clear hw HV
        go_wp2_with fail
        go_step3
        go_wp2_with fail
        simp only [hw1]
        go_loopg [9] 1 (fun g v9 wx => v9 = .int .i64 (last : Int) ∧ wx = w)
        case atStart => exact ⟨by first | rfl | simp [*], rfl⟩
        case round =>
          obtain ⟨rfl, rfl⟩ := hrel
          go_wp2_with fail
          try rw [Exit.noGoto_ret]
          try rw [Exit.noGoto_ret]
          go_ret
          exact ⟨rfl, Below.refl _ _⟩

end Go.Proofs.YtkkbkdpfhbjliaaDoor.PF
