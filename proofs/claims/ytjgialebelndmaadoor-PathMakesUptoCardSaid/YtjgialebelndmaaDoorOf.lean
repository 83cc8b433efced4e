/- path.Of walked. -/
import Derived.Test.YtjgialebelndmaaDoorTxt2
namespace Go.Proofs.YtjgialebelndmaaDoor.PF
open Go.RowKit Go.Proofs.YtjgialebelndmaaDoorW.PrintWords Go.Proofs.YtjgialebelndmaaDoorW.PrintLast Go.Proofs.YtjgialebelndmaaDoorW.PrintMore
open Go.Shelf
set_option linter.unusedVariables false
set_option linter.unusedSimpArgs false
set_option maxHeartbeats 4000000
set_option maxRecDepth 100000

open Go.Proofs Go.Lib
/-- What path.Of says. -/
def ofL (c n : List UInt8) : Option (List UInt8) :=
  if c = [] ∧ n = [] then some [47] else if fitsL c then (if n = [] then some ([47] ++ escL c ++ [47]) else if fitsL n then some ([47] ++ escL c ++ [47] ++ escL n) else none) else none
theorem bapp (a b : List UInt8) : (⟨a.toArray⟩ : ByteArray) ++ ⟨b.toArray⟩ = ⟨(a ++ b).toArray⟩ := by
  apply ByteArray.ext
  simp
theorem bemp (y : ByteArray) (l : List UInt8) (h : l = y.data.toList) (b : Bool) (hb : b = decide (l = [])) : y.toList.isEmpty = b := by
  rw [Lib.toList_data y, ← h, hb]
  cases l <;> rfl
set_option maxHeartbeats 16000000 in
theorem of_calls (a0 a1 : ByteArray) (hs0 : a0.size ≤ 1073741824) (hs1 : a1.size ≤ 1073741824) (w : World) (hT : Tabs w) :
    Calls Tryd.prog 11 #[.string a0, .string a1] w fun e w' => e = .returned (.tuple #[.string ⟨((ofL a0.data.toList a1.data.toList).getD []).toArray⟩, .int .i64 (if (ofL a0.data.toList a1.data.toList).isSome then 0 else 60)]) ∧ Below w.heap.size w w' := by
  have HT := Aside0.mk hT
  have HS0 := Aside0.mk (fun W hT => segment_calls a0 hs0 W hT)
  have HS1 := Aside0.mk (fun W hT => segment_calls a1 hs1 W hT)
  obtain ⟨c, hc⟩ : ∃ c, c = a0.data.toList := ⟨_, rfl⟩
  obtain ⟨n, hn⟩ : ∃ n, n = a1.data.toList := ⟨_, rfl⟩
  have hec := bemp a0 c hc
  have hen := bemp a1 n hn
  rw [← hc] at HS0 ⊢
  rw [← hn] at HS1 ⊢
  obtain ⟨R, hR⟩ : ∃ R, R = ofL c n := ⟨_, rfl⟩
  rw [← hR]
  have FAIL := Aside0.mk (show R = none → (R.getD [] = [] ∧ (if R.isSome then (0 : Int) else 60) = 60) from fun h => by rw [h]; exact ⟨rfl, rfl⟩)
  have GOOD := Aside0.mk (show ∀ r, R = some r → (R.getD [] = r ∧ (if R.isSome then (0 : Int) else 60) = 0) from fun r h => by rw [h]; exact ⟨rfl, rfl⟩)
  obtain ⟨R1, hR1⟩ : ∃ R1, R1 = R.getD [] := ⟨_, rfl⟩
  obtain ⟨R2, hR2⟩ : ∃ R2 : Int, R2 = if R.isSome then (0 : Int) else 60 := ⟨_, rfl⟩
  rw [← hR1, ← hR2]
  rw [← hR1, ← hR2] at FAIL GOOD
  have HR := Aside0.mk hR
  have HLC := Aside0.mk (show (escL c).length ≤ 3221225472 by have h1 := escL_len c; have h2 : c.length = a0.size := by rw [hc]; rfl
                                                              omega)
  have HLN := Aside0.mk (show (escL n).length ≤ 3221225472 by have h1 := escL_len n; have h2 : n.length = a1.size := by rw [hn]; rfl
                                                              omega)
  clear hR hR1 hR2 hT hc hn hs0 hs1
  have tail : ∀ (b : Bool), b = decide (c = []) → ¬ (c = [] ∧ n = []) → True := fun _ _ _ => trivial
  clear tail
  by_cases hc0 : c = []
  · have d0 := hec true (by rw [hc0]; rfl)
    by_cases hn0 : n = []
    · have d1 := hen true (by rw [hn0]; rfl)
      have HQ := Aside0.mk (GOOD.out [47] (by rw [HR.out]; unfold ofL; rw [if_pos ⟨hc0, hn0⟩]))
      clear hec hen HS0 HS1 hc0 hn0
      go_enter Tryd.func11, Tryd.ntmps11
      go_wp2_with fail
      refine (path_Root.calls (⟨#[47]⟩ : ByteArray) w rfl).mono ?_
      rintro _ w1 ⟨rfl, hb⟩
      have HB := Aside0.mk (drawn_below hb)
      clear hb
      go_wp2_with fail
      go_ret2
      exact ⟨by rw [HQ.out.1, HQ.out.2]; rfl, HB.out⟩
    · have d1 := hen false (by rw [decide_eq_false hn0])
      have HQ := Aside0.mk (FAIL.out (by rw [HR.out]; unfold ofL; rw [if_neg (fun h => hn0 h.2), hc0]; rfl))
      have hf : fitsL c = false := by rw [hc0]; rfl
      rw [hf] at HS0
      rw [show (if false = true then escL c else []) = ([] : List UInt8) from rfl, show (if false = true then (0 : Int) else 60) = 60 from rfl] at HS0
      clear hec hen HS1 hc0 hn0 hf
      go_enter Tryd.func11, Tryd.ntmps11
      go_wp2_with fail
      refine (HS0.out _ HT.out).mono ?_
      rintro _ w1 ⟨rfl, hb⟩
      have HB := Aside0.mk hb
      clear hb HS0
      go_wp2_with fail
      go_ret2
      exact ⟨by rw [HQ.out.1, HQ.out.2]; rfl, HB.out⟩
  · have d0 := hec false (by rw [decide_eq_false hc0])
    cases hf : fitsL c with
    | false =>
      have HQ := Aside0.mk (FAIL.out (by rw [HR.out]; unfold ofL; rw [if_neg (fun h => hc0 h.1), hf]; rfl))
      rw [hf] at HS0
      rw [show (if false = true then escL c else []) = ([] : List UInt8) from rfl, show (if false = true then (0 : Int) else 60) = 60 from rfl] at HS0
      clear hec hen HS1 hc0 hf
      go_enter Tryd.func11, Tryd.ntmps11
      go_wp2_with fail
      refine (HS0.out _ HT.out).mono ?_
      rintro _ w1 ⟨rfl, hb⟩
      have HB := Aside0.mk hb
      clear hb HS0
      go_wp2_with fail
      go_ret2
      exact ⟨by rw [HQ.out.1, HQ.out.2]; rfl, HB.out⟩
    | true =>
      rw [hf] at HS0
      rw [show (if true = true then escL c else []) = escL c from rfl, show (if true = true then (0 : Int) else 60) = 0 from rfl] at HS0
      by_cases hn0 : n = []
      · have d1 := hen true (by rw [hn0]; rfl)
        have HQ := Aside0.mk (GOOD.out ([47] ++ escL c ++ [47]) (by rw [HR.out]; unfold ofL; rw [if_neg (fun h => hc0 h.1), hf, if_pos rfl, if_pos hn0]))
        clear hec hen HS1 hc0 hf hn0
        have t1 : (9223372036854775807 < 1 + (escL c).length) = False := eq_false (by have := HLC.out; omega)
        have t2 : (9223372036854775807 < 1 + (escL c).length + 1) = False := eq_false (by have := HLC.out; omega)
        go_enter Tryd.func11, Tryd.ntmps11
        go_wp2_with fail
        refine (HS0.out _ HT.out).mono ?_
        rintro _ w1 ⟨rfl, hb⟩
        have HB := Aside0.mk hb
        clear hb HS0
        go_wp2_with fail
        go_ret2
        exact ⟨by rw [HQ.out.1, HQ.out.2, ← bapp, ← bapp]; rfl, HB.out⟩
      · have d1 := hen false (by rw [decide_eq_false hn0])
        cases hg : fitsL n with
        | false =>
          have HQ := Aside0.mk (FAIL.out (by rw [HR.out]; unfold ofL; rw [if_neg (fun h => hc0 h.1), hf, if_pos rfl, if_neg hn0, hg]; rfl))
          rw [hg] at HS1
          rw [show (if false = true then escL n else []) = ([] : List UInt8) from rfl, show (if false = true then (0 : Int) else 60) = 60 from rfl] at HS1
          clear hec hen hc0 hf hn0 hg
          go_enter Tryd.func11, Tryd.ntmps11
          go_wp2_with fail
          refine (HS0.out _ HT.out).mono ?_
          rintro _ w1 ⟨rfl, hb⟩
          have HB := Aside0.mk hb
          clear hb HS0
          go_wp2_with fail
          refine (HS1.out _ (tabs_below HT.out HB.out)).mono ?_
          rintro _ w2 ⟨rfl, hb⟩
          have HB2 := Aside0.mk (HB.out.trans (hb.mono HB.out.size))
          clear hb HS1
          go_wp2_with fail
          go_ret2
          exact ⟨by rw [HQ.out.1, HQ.out.2]; rfl, HB2.out⟩
        | true =>
          have HQ := Aside0.mk (GOOD.out ([47] ++ escL c ++ [47] ++ escL n) (by rw [HR.out]; unfold ofL; rw [if_neg (fun h => hc0 h.1), hf, if_pos rfl, if_neg hn0, hg, if_pos rfl]))
          rw [hg] at HS1
          rw [show (if true = true then escL n else []) = escL n from rfl, show (if true = true then (0 : Int) else 60) = 0 from rfl] at HS1
          clear hec hen hc0 hf hn0 hg
          have t1 : (9223372036854775807 < 1 + (escL c).length) = False := eq_false (by have := HLC.out; omega)
          have t2 : (9223372036854775807 < 1 + (escL c).length + 1) = False := eq_false (by have := HLC.out; omega)
          have t3 : (9223372036854775807 < 1 + (escL c).length + 1 + (escL n).length) = False := eq_false (by have := HLC.out; have := HLN.out; omega)
          go_enter Tryd.func11, Tryd.ntmps11
          go_wp2_with fail
          refine (HS0.out _ HT.out).mono ?_
          rintro _ w1 ⟨rfl, hb⟩
          have HB := Aside0.mk hb
          clear hb HS0
          go_wp2_with fail
          refine (HS1.out _ (tabs_below HT.out HB.out)).mono ?_
          rintro _ w2 ⟨rfl, hb⟩
          have HB2 := Aside0.mk (HB.out.trans (hb.mono HB.out.size))
          clear hb HS1
          go_wp2_with fail
          go_ret2
          exact ⟨by rw [HQ.out.1, HQ.out.2, ← bapp, ← bapp, ← bapp]; rfl, HB2.out⟩

end Go.Proofs.YtjgialebelndmaaDoor.PF
