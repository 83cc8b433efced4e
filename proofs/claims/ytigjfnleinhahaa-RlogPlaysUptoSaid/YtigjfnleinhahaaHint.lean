/- A log's Hint: from where a leader is to try again. -/
import Derived.Test.YtigjfnleinhahaaLog
import Derived.Test.YtigjfnleinhahaaPLogx0
namespace Go.Proofs.Ytigjfnleinhahaa.PLog
open Go.RowKit Go.Proofs.YtigjfnleinhahaaW.PrintWords Go.Proofs.YtigjfnleinhahaaW.PrintLast Go.Proofs.YtigjfnleinhahaaW.PrintMore
open Go.Proofs.Ytigjfnleinhahaa.Reg
set_option linter.unusedVariables false
set_option linter.unusedSimpArgs false
/-- Back from a + n, as long as the term ahead is u. -/
def hintGo (a t : Int) (es : List S60) (u : Int) : Nat → Int
  | 0 => a
  | n + 1 => if (termAt a t es (a + n)).1 = u then hintGo a t es u n else a + (n : Int) + 1
def hintL (a t : Int) (es : List S60) (i : Int) : Int := if a + es.length < i then a + es.length + 1 else if i ≤ a then a + 1 else max (hintGo a t es (termAt a t es i).1 (i - a).toNat) (a + 1)
theorem hint_calls {w : World} {ok : Nat → Prop} {g : Nat} {a t : Int} {es : List S60} (h : Log w ok g a t es) (h0 : 0 ≤ a) (h1 : a + es.length ≤ 4611686018427387904) (i : Int) :
    Calls Try.prog 18 #[.pointer (some ⟨g, 0, none⟩), .int .i64 i] w fun e w' => e = .returned (.int .i64 (hintL a t es i)) ∧ ∃ m, w' = w.drewN m := by
  obtain ⟨A, c, c0, c1, c2, hc, hr⟩ := h.cells
  have HL := Aside0.mk h
  clear hr h
  unfold hintL
  by_cases e1 : a + es.length < i
  · rw [if_pos e1]
    have d1 : decide (a + es.length < i) = true := decide_eq_true e1
    have hw : wrap64 (a + (es.length : Int) + 1) = a + es.length + 1 := by unfold wrap64; omega
    go_enter Try.func18, Try.ntmps18
    go_wp2_with fail
    refine (last_calls HL.out (by omega) h1).mono ?_
    rintro _ w1 ⟨rfl, m, rfl⟩
    go_wp2_with fail
    refine (last_calls (HL.out.drewN m) (by omega) h1).mono ?_
    rintro _ w1 ⟨rfl, m2, rfl⟩
    go_wp2_with fail
    go_ret
    exact ⟨by simp [hw], _, rfl⟩
  · rw [if_neg e1]
    have d1 : decide (a + es.length < i) = false := decide_eq_false e1
    by_cases e2 : i ≤ a
    · rw [if_pos e2]
      have d2 : decide (i ≤ a) = true := decide_eq_true e2
      have hw : wrap64 (a + 1) = a + 1 := by unfold wrap64; omega
      go_enter Try.func18, Try.ntmps18
      go_wp2_with fail
      refine (last_calls HL.out (by omega) h1).mono ?_
      rintro _ w1 ⟨rfl, m, rfl⟩
      go_wp2_with fail
      go_ret
      exact ⟨by simp [hw], _, rfl⟩
    · rw [if_neg e2]
      have d2 : decide (i ≤ a) = false := decide_eq_false e2
      obtain ⟨n, hn⟩ : ∃ n : Nat, i = a + n := ⟨(i - a).toNat, by omega⟩
      have hnt : (i - a).toNat = n := by omega
      rw [hnt]
      generalize hU : termAt a t es i = U
      have HU := Aside0.mk hU
      have HN := Aside0.mk hn
      clear hU hn hnt
      have hwa : wrap64 (a + 1) = a + 1 := by unfold wrap64; omega
      go_enter Try.func18, Try.ntmps18
      go_wp2_with fail
      refine (last_calls HL.out (by omega) h1).mono ?_
      rintro _ w1 ⟨rfl, m, rfl⟩
      go_wp2_with fail
      refine (term_calls (HL.out.drewN m) h0 h1 i).mono ?_
      rw [HU.out]
      rintro _ w1 ⟨rfl, m2, rfl⟩
      go_wp2_with fail
      go_loopw [1] (fun v wr => ∃ (x : Int) (j : Nat) (m : Nat), v = .int .i64 x ∧ Aside0 (x = a + j) ∧ Aside0 (j ≤ es.length) ∧ Aside0 (hintGo a t es U.1 j = hintGo a t es U.1 n) ∧ Aside0 (wr = w.drewN m)) (fun v _ => (intOf v - a).toNat)
      case atStart =>
        have hj : n ≤ es.length := by have := HN.out; omega
        exact ⟨i, n, m + m2, rfl, HN, Aside0.mk hj, Aside0.mk rfl, Aside0.mk rfl⟩
      case round =>
        obtain ⟨x, j, m3, rfl, HX, HJ, HG, HW⟩ := hrel
        obtain rfl := HW.out
        clear HW
        cases j with
        | zero =>
          have hx : x = a := by have := HX.out; omega
          subst hx
          have hz : decide (x < x) = false := by simp
          have hr : max (hintGo x t es U.1 n) (x + 1) = x + 1 := by rw [← HG.out]; simp only [hintGo]; omega
          have hlt : decide (x < x + 1) = true := decide_eq_true (by omega)
          have hgt : decide (x + 1 > x) = true := decide_eq_true (by omega)
          go_wp2_with fail
          go_ret
          exact ⟨by rw [hr]; rfl, _, rfl⟩
        | succ j =>
          have hxa : a < x := by have := HX.out; omega
          have hd : decide (a < x) = true := decide_eq_true hxa
          have hw : wrap64 (x - 1) = x - 1 := by have := HX.out; have := HJ.out; unfold wrap64; omega
          go_wp2_with fail
          have hT : (termAt a t es (x - 1)).1 = (termAt a t es (a + j)).1 := by rw [show x - 1 = a + (j : Int) by have := HX.out; omega]
          generalize hV : termAt a t es (x - 1) = V at hT
          have HV := Aside0.mk hV
          clear hV
          refine (term_calls (HL.out.drewN m3) h0 h1 (x - 1)).mono ?_
          rw [HV.out]
          rintro _ w1 ⟨rfl, m4, rfl⟩
          by_cases hq : V.1 = U.1
          · have hg : hintGo a t es U.1 j = hintGo a t es U.1 n := by
              rw [← HG.out]
              simp only [hintGo]
              rw [← hT, if_pos hq]
            have HG2 := Aside0.mk hg
            clear hg hT
            go_wp2_with fail
            go_roundw
            case rel =>
              exact ⟨x - 1, j, m3 + m4, by rw [hw], Aside0.mk (by have := HX.out; omega), Aside0.mk (by have := HJ.out; omega), HG2, Aside0.mk rfl⟩
            case measure => simp [intOf, hw]; omega
          · have hg : hintGo a t es U.1 n = x := by
              rw [← HG.out]
              simp only [hintGo]
              rw [← hT, if_neg hq]
              have := HX.out
              omega
            have hb : max (hintGo a t es U.1 n) (a + 1) = x := by rw [hg]; omega
            have HB := Aside0.mk hb
            clear hg hT hb
            have hlt : decide (x < a + 1) = false := decide_eq_false (by omega)
            go_wp2_with fail
            go_ret
            exact ⟨by rw [HB.out]; rfl, _, rfl⟩
end Go.Proofs.Ytigjfnleinhahaa.PLog
