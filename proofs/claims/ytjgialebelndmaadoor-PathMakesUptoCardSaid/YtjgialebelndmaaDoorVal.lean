/- char.Valid and path.fits walked. -/
import Derived.Test.YtjgialebelndmaaDoorPFx1
import Derived.Test.YtjgialebelndmaaDoorChL
namespace Go.Proofs.YtjgialebelndmaaDoor.PF
open Go.RowKit Go.Proofs.YtjgialebelndmaaDoorW.PrintWords Go.Proofs.YtjgialebelndmaaDoorW.PrintLast Go.Proofs.YtjgialebelndmaaDoorW.PrintMore
open Go.Shelf
set_option linter.unusedVariables false
set_option linter.unusedSimpArgs false
set_option maxHeartbeats 4000000
set_option maxRecDepth 100000

open Go.Proofs Go.Lib
abbrev Tabs (w : World) : Prop := Lib.Utf8Tabs 0 1 w
theorem tabs_below {w w' : World} (h : Tabs w) (hb : Below w.heap.size w w') : Tabs w' := by
  have lt : ∀ {p : Addr} {v : Value}, w.cell? p = some v → p.block < w.heap.size := fun {p v} hc => by
    obtain ⟨b, o, s⟩ := p
    simp only [World.cell?] at hc
    cases hh : w.heap[b]? with
    | none => rw [hh] at hc; cases hc
    | some x => exact (Array.getElem?_eq_some_iff.1 hh).1
  refine ⟨fun c hc => ?_, fun i hi => ⟨?_, ?_⟩⟩
  · rw [hb.cell (lt (h.1 c hc))]; exact h.1 c hc
  · rw [hb.cell (lt (h.2 i hi).1)]; exact (h.2 i hi).1
  · rw [hb.cell (lt (h.2 i hi).2)]; exact (h.2 i hi).2
theorem control_is (x : Nat) : char_control.f (x : Int) = some (ctl x) := by
  unfold char_control.f ctl
  have hb : ((x : Int) == 127) = decide (x = 127) := by
    by_cases h : x = 127
    · subst h; rfl
    · rw [decide_eq_false h]; exact beq_eq_false_iff_ne.2 (by omega)
  by_cases h1 : x < 32
  · rw [if_pos (by omega), decide_eq_true h1, hb]
    by_cases h2 : x = 9
    · subst h2; rfl
    · rw [if_neg (by omega), decide_eq_true h2]
      by_cases h3 : x = 10
      · subst h3; rfl
      · rw [if_neg (by omega), decide_eq_true h3]
        by_cases h4 : x = 13
        · subst h4; rfl
        · rw [if_neg (by omega), decide_eq_true h4]; rfl
  · rw [if_neg (by omega), decide_eq_false h1, hb]; rfl
theorem drawn_below {w w' : World} (h : Drawn0 w w') : Below w.heap.size w w' := by
  obtain ⟨n, rfl⟩ := h
  exact pw_below_drewN (Below.refl _ _) n
theorem control_grows (w : World) : PredGrows Tryd.prog 34 #[] ctl w := fun W x hx hb =>
  (char_control.calls (x : Int) (ctl x) W (control_is x)).mono fun e w' ⟨h1, h2⟩ => ⟨h1, drawn_below h2⟩
set_option maxHeartbeats 8000000 in
theorem valid_calls (a0 : ByteArray) (hs : a0.size ≤ 1073741824) (w : World) (hT : Tabs w) :
    Calls Tryd.prog 25 #[.string a0] w fun e w' => e = .returned (.bool (vld a0.data.toList)) ∧ Below w.heap.size w w' := by
  have HV := Aside0.mk (Tryd.utf8_ValidString a0 w (by omega) hT)
  have HI := Aside0.mk (fun w' => Tryd.strings_IndexFunc_grows 34 #[] (enters_of Tryd.func34 (by kernel_rfl) rfl) ctl a0 w' (control_grows w'))
  have HR := Aside0.mk (valid_is a0)
  generalize Lib.validD a0.data.toList = v at *
  generalize vld a0.data.toList = r at *
  generalize Lib.idxFunc ctl true a0 = q at *
  clear hT
  cases v with
  | false =>
    go_enter Tryd.func25, Tryd.ntmps25
    go_wp2_with fail
    refine HV.out.mono ?_
    rintro _ w1 ⟨rfl, hb⟩
    have HB := Aside0.mk hb
    clear hb HV
    go_wp2_with fail
    go_ret
    exact ⟨by rw [← HR.out]; rfl, HB.out⟩
  | true =>
    go_enter Tryd.func25, Tryd.ntmps25
    go_wp2_with fail
    refine HV.out.mono ?_
    rintro _ w1 ⟨rfl, hb⟩
    have HB := Aside0.mk hb
    clear hb HV
    go_wp2_with fail
    refine (HI.out _).mono ?_
    rintro _ w2 ⟨rfl, hb⟩
    have HB2 := Aside0.mk (HB.out.trans (hb.mono HB.out.size))
    clear hb HI
    go_wp2_with fail
    go_ret
    exact ⟨by rw [← HR.out]; rfl, HB2.out⟩
/-- May a text be a segment's? -/
def fitsL (l : List UInt8) : Bool := vld l && decide (1 ≤ l.length) && decide (l.length ≤ 64) && decide (l ≠ [46]) && decide (l ≠ [46, 46])
set_option maxHeartbeats 8000000 in
theorem fits_calls (a0 : ByteArray) (hs : a0.size ≤ 1073741824) (w : World) (hT : Tabs w) :
    Calls Tryd.prog 16 #[.string a0] w fun e w' => e = .returned (.bool (fitsL a0.data.toList)) ∧ Below w.heap.size w w' := by
  have HV := Aside0.mk (valid_calls a0 hs w hT)
  have hlen : a0.data.toList.length = a0.size := rfl
  have ht : a0.toList = a0.data.toList := Lib.toList_data a0
  have HR := Aside0.mk (show fitsL a0.data.toList = (vld a0.data.toList && decide (1 ≤ a0.size) && decide (a0.size ≤ 64) && decide (a0.toList ≠ [46]) && decide (a0.toList ≠ [46, 46])) by rw [ht]; rfl)
  generalize fitsL a0.data.toList = r at *
  generalize vld a0.data.toList = v at *
  clear hlen ht hT
  have fin : ∀ (e : Ending) (w' : World) (b : Bool), e = .returned (.bool b) → r = b → Below w.heap.size w w' → e = .returned (.bool r) ∧ Below w.heap.size w w' := fun e w' b h1 h2 h3 => ⟨by rw [h1, h2], h3⟩
  have FIN := Aside0.mk fin
  clear fin
  have step : ∀ b1 b2 b3 b4 b5 : Bool, True := fun _ _ _ _ _ => trivial
  clear step
  cases v with
  | false =>
    go_enter Tryd.func16, Tryd.ntmps16
    go_wp2_with fail
    refine HV.out.mono ?_
    rintro _ w1 ⟨rfl, hb⟩
    have HB := Aside0.mk hb
    clear hb HV
    go_wp2_with fail
    go_ret
    exact ⟨by rw [HR.out]; rfl, HB.out⟩
  | true =>
    by_cases c1 : 1 ≤ a0.size
    · have d1 : decide ((1 : Int) ≤ (a0.size : Int)) = true := decide_eq_true (by omega)
      have d1' : decide (1 ≤ a0.size) = true := decide_eq_true c1
      by_cases c2 : a0.size ≤ 64
      · have d2 : decide ((a0.size : Int) ≤ 64) = true := decide_eq_true (by omega)
        have d2' : decide (a0.size ≤ 64) = true := decide_eq_true c2
        by_cases c3 : a0.toList = [46]
        · have d3 : (a0.toList == [46]) = true := beq_iff_eq.2 c3
          have HQ := Aside0.mk (show r = false by rw [HR.out]; simp [c3])
          clear c3 c1 c2
          go_enter Tryd.func16, Tryd.ntmps16
          go_wp2_with fail
          refine HV.out.mono ?_
          rintro _ w1 ⟨rfl, hb⟩
          have HB := Aside0.mk hb
          clear hb HV
          go_wp2_with fail
          go_ret
          exact ⟨by rw [HQ.out]; rfl, HB.out⟩
        · have d3 : (a0.toList == [46]) = false := beq_eq_false_iff_ne.2 c3
          by_cases c4 : a0.toList = [46, 46]
          · have d4 : (a0.toList == [46, 46]) = true := beq_iff_eq.2 c4
            have HQ := Aside0.mk (show r = false by rw [HR.out]; simp [c4])
            clear c4 c3 c1 c2
            go_enter Tryd.func16, Tryd.ntmps16
            go_wp2_with fail
            refine HV.out.mono ?_
            rintro _ w1 ⟨rfl, hb⟩
            have HB := Aside0.mk hb
            clear hb HV
            go_wp2_with fail
            go_ret
            exact ⟨by rw [HQ.out]; rfl, HB.out⟩
          · have d4 : (a0.toList == [46, 46]) = false := beq_eq_false_iff_ne.2 c4
            have HQ := Aside0.mk (show r = true by rw [HR.out]; simp [c1, c2, c3, c4])
            clear c4 c3 c1 c2
            go_enter Tryd.func16, Tryd.ntmps16
            go_wp2_with fail
            refine HV.out.mono ?_
            rintro _ w1 ⟨rfl, hb⟩
            have HB := Aside0.mk hb
            clear hb HV
            go_wp2_with fail
            go_ret
            exact ⟨by rw [HQ.out]; rfl, HB.out⟩
      · have d2 : decide ((a0.size : Int) ≤ 64) = false := decide_eq_false (by omega)
        have d2' : decide (a0.size ≤ 64) = false := decide_eq_false c2
        have HQ := Aside0.mk (show r = false by rw [HR.out, d2']; simp)
        clear c1 c2
        go_enter Tryd.func16, Tryd.ntmps16
        go_wp2_with fail
        refine HV.out.mono ?_
        rintro _ w1 ⟨rfl, hb⟩
        have HB := Aside0.mk hb
        clear hb HV
        go_wp2_with fail
        go_ret
        exact ⟨by rw [HQ.out]; rfl, HB.out⟩
    · have d1 : decide ((1 : Int) ≤ (a0.size : Int)) = false := decide_eq_false (by omega)
      have d1' : decide (1 ≤ a0.size) = false := decide_eq_false c1
      have HQ := Aside0.mk (show r = false by rw [HR.out, d1']; simp)
      clear c1
      go_enter Tryd.func16, Tryd.ntmps16
      go_wp2_with fail
      refine HV.out.mono ?_
      rintro _ w1 ⟨rfl, hb⟩
      have HB := Aside0.mk hb
      clear hb HV
      go_wp2_with fail
      go_ret
      exact ⟨by rw [HQ.out]; rfl, HB.out⟩

end Go.Proofs.YtjgialebelndmaaDoor.PF
