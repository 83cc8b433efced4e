/- The document's log: Hint. -/
import Derived.Test.YtigjfnleinhahaaLogX

namespace Go.Proofs.Ytigjfnleinhahaa.PLog
open Go.RowKit Go.Proofs.YtigjfnleinhahaaW.PrintWords Go.Proofs.YtigjfnleinhahaaW.PrintLast Go.Proofs.YtigjfnleinhahaaW.PrintMore
open Go.Proofs.Ytigjfnleinhahaa.Reg
set_option linter.unusedVariables false
set_option linter.unusedSimpArgs false
set_option maxHeartbeats 4000000
set_option maxRecDepth 100000

def rhGo (es : List S60) (u : Int) : Nat → Nat
  | 0 => 0
  | n + 1 => if (rd_T60 es (n : Int)).f0 = u then rhGo es u n else n + 1
theorem rhGo_is (a t : Int) (es : List S60) (u : Int) (h0 : 0 ≤ a) : ∀ m : Nat, m ≤ es.length → max (hintGo a t es u (m + 1)) (a + 1) = a + 1 + (rhGo es u m : Nat) := by
  intro m
  induction m with
  | zero =>
    intro _
    simp only [hintGo, rhGo]
    split <;> simp <;> omega
  | succ m ih =>
    intro hm
    have ih := ih (by omega)
    have hT : (termAt a t es (a + ((m + 1 : Nat) : Int))).1 = (rd_T60 es (m : Int)).f0 := by
      unfold termAt
      rw [if_neg (by omega), if_pos (by omega), if_pos (by omega), show a + ((m + 1 : Nat) : Int) - a - 1 = (m : Int) by omega]
    rw [hintGo, hT, rhGo]
    split
    · exact ih
    · omega
theorem hint_x {w : World} {ok : Nat → Prop} {g : Nat} {a t : Int} {es : List S60} (h : LogX w ok g a t es) (h0 : 0 ≤ a) (h1 : a + es.length ≤ 4611686018427387904) (i : Int) :
    Calls Try.prog 35 #[.pointer (some ⟨g, 0, none⟩), .int .i64 i] w fun e w' => e = .returned (.int .i64 (hintL a t es i)) ∧ ∃ m, w' = w.drewN m := by
  obtain ⟨A, c, c0, c1, c2, hc, hr⟩ := h.cells
  have HL := Aside0.mk h
  have HR := Aside0.mk hr
  clear hr h
  unfold hintL
  by_cases e1 : a + es.length < i
  · rw [if_pos e1]
    have d1 : decide (i > a + es.length) = true := decide_eq_true e1
    have hw : wrap64 (a + (es.length : Int) + 1) = a + es.length + 1 := by unfold wrap64; omega
    go_enter Try.func35, Try.ntmps35
    go_wp2_with fail
    refine (last_x HL.out (by omega) h1).mono ?_
    rintro _ w1 ⟨rfl, m, rfl⟩
    go_wp2_with fail
    refine (last_x (HL.out.drewN m) (by omega) h1).mono ?_
    rintro _ w1 ⟨rfl, m2, rfl⟩
    go_wp2_with fail
    go_ret
    exact ⟨by simp [hw], _, rfl⟩
  · rw [if_neg e1]
    have d1 : decide (i > a + es.length) = false := decide_eq_false e1
    by_cases e2 : i ≤ a
    · rw [if_pos e2]
      have d2 : decide (i ≤ a) = true := decide_eq_true e2
      have hw : wrap64 (a + 1) = a + 1 := by unfold wrap64; omega
      go_enter Try.func35, Try.ntmps35
      go_wp2_with fail
      refine (last_x HL.out (by omega) h1).mono ?_
      rintro _ w1 ⟨rfl, m, rfl⟩
      go_wp2_with fail
      go_ret
      exact ⟨by simp [hw], _, rfl⟩
    · rw [if_neg e2]
      have d2 : decide (i ≤ a) = false := decide_eq_false e2
      obtain ⟨n, hn⟩ : ∃ n : Nat, i = a + n + 1 := ⟨(i - a - 1).toNat, by omega⟩
      have hnl : n < es.length := by omega
      have hnt : (i - a).toNat = n + 1 := by omega
      have hU : (termAt a t es i).1 = (rd_T60 es (n : Int)).f0 := by
        unfold termAt
        rw [if_neg (by omega), if_pos (by omega), if_pos (by omega), show i - a - 1 = (n : Int) by omega]
      rw [hnt, hU, rhGo_is a t es _ h0 n (by omega)]
      have hwa : wrap64 (a + 1) = a + 1 := by unfold wrap64; omega
      have hw1 : wrap64 (i - a) = (n : Int) + 1 := by unfold wrap64; omega
      have hw2 : wrap64 ((n : Int) + 1 - 1) = (n : Int) := by unfold wrap64; omega
      have hw3 : wrap64 (i - a - 1) = (n : Int) := by unfold wrap64; omega
      obtain ⟨ad, A9, c9, A13, c13, rfl, hx, hrest⟩ := at_T60 HR.out (n : Int) (by omega) (by omega)
      clear hrest hU hnt
      rw [Int.toNat_natCast] at hx
      generalize hu : (rd_T60 es (n : Int)).f0 = u at hx
      have HU := Aside0.mk hu
      have HN := Aside0.mk hn
      have HNL := Aside0.mk hnl
      have HA := Aside0.mk (And.intro h0 h1)
      have hlt : (n : Int) < (es.length : Int) := by omega
      clear hu hn hnl
      go_enter Try.func35, Try.ntmps35
      go_wp2_with fail
      refine (last_x HL.out (by omega) h1).mono ?_
      rintro _ w1 ⟨rfl, m, rfl⟩
      go_wp2_with fail
      go_loopw [5] (fun v wr => ∃ (x : Int) (j m : Nat), v = .int .i64 x ∧ Aside0 (x = j) ∧ Aside0 (j ≤ n) ∧ Aside0 (rhGo es u j = rhGo es u n) ∧ Aside0 (wr = w.drewN m)) (fun v _ => (intOf v).toNat)
      case atStart =>
        exact ⟨_, n, m, rfl, Aside0.mk (by have := HN.out; omega), Aside0.mk (Nat.le_refl _), Aside0.mk rfl, Aside0.mk rfl⟩
      case round =>
        obtain ⟨x, j, m3, rfl, HX, HJ, HG, HW⟩ := hrel
        obtain rfl := HW.out
        clear HW
        cases j with
        | zero =>
          have hg : rhGo es u n = 0 := by rw [← HG.out]; rfl
          obtain rfl : x = 0 := HX.out
          have hz : decide ((0 : Int) > 0) = false := by decide
          go_wp2_with fail
          go_quiet (fail)
          go_wp2_with fail
          go_ret
          exact ⟨by rw [hg]; simp [hwa], _, rfl⟩
        | succ j =>
          have hz : decide (x > 0) = true := decide_eq_true (by have := HX.out; omega)
          have hwj : wrap64 (x - 1) = x - 1 := by have := HX.out; have := HJ.out; have := HNL.out; have := HA.out; unfold wrap64; omega
          have hwk : IntKind.i64.wrap (x - 1) = x - 1 := by rw [i64_w]; exact hwj
          have hk1 : IntKind.i64.wrap (i - a) = i - a := by have := HN.out; have := HNL.out; have := HA.out; rw [i64_w]; unfold wrap64; omega
          have hk2 : IntKind.i64.wrap (i - a - 1) = i - a - 1 := by have := HN.out; have := HNL.out; have := HA.out; rw [i64_w]; unfold wrap64; omega
          have hi1 : 0 ≤ i - a - 1 := by have := HN.out; omega
          have hi2 : i - a - 1 < (es.length : Int) := by have := HN.out; have := HNL.out; omega
          have hxi : w.cell? (ad.add (((i - a).toNat - 1) * 14)) = some (.int .i64 u) := by
            rw [show (i - a).toNat - 1 = n by have := HN.out; omega]; exact hx
          obtain ⟨ad2, B9, b9, B13, b13, had, hy, hrest⟩ := at_T60 HR.out (x - 1) (by have := HX.out; omega) (by have := HX.out; have := HJ.out; have := HNL.out; omega)
          injection had with had
          subst had
          have hv : (rd_T60 es (x - 1)).f0 = (rd_T60 es (j : Int)).f0 := by rw [show x - 1 = (j : Int) by have := HX.out; omega]
          have hy0 : w.cell? (ad.add ((x.toNat - 1) * 14)) = some (.int .i64 (rd_T60 es (j : Int)).f0) := by
            rw [← hv, show x.toNat - 1 = (x - 1).toNat by have := HX.out; omega]; exact hy
          clear hrest hy hv
          have hx1 : 0 ≤ x - 1 := by have := HX.out; omega
          have hx2 : x - 1 < (es.length : Int) := by have := HX.out; have := HJ.out; have := HNL.out; omega
          generalize hv : (rd_T60 es (j : Int)).f0 = v at hy0
          have HV := Aside0.mk hv
          clear hv
          by_cases hq : v = u
          · have dq : (v == u) = true := by simpa using hq
            have hg : rhGo es u j = rhGo es u n := by rw [← HG.out, rhGo, HV.out, if_pos hq]
            have HG2 := Aside0.mk hg
            clear hg hq
            go_wp2_with fail
            go_quiet (fail)
            go_wp2_with fail
            go_roundw
            case rel => exact ⟨x - 1, j, _, rfl, Aside0.mk (by have := HX.out; omega), Aside0.mk (by have := HJ.out; omega), HG2, Aside0.mk rfl⟩
            case measure => simp [intOf]; omega
          · have dq : (v == u) = false := by simpa using hq
            have hg : rhGo es u n = j + 1 := by rw [← HG.out, rhGo, HV.out, if_neg hq]
            have hwz : wrap64 (a + 1 + x) = a + 1 + x := by have := HX.out; have := HJ.out; have := HNL.out; have := HA.out; unfold wrap64; omega
            have HG2 := Aside0.mk hg
            clear hg hq
            go_wp2_with fail
            go_quiet (fail)
            go_wp2_with fail
            go_ret
            exact ⟨by rw [HG2.out, show x = ((j + 1 : Nat) : Int) from HX.out]; simp [hwa], _, rfl⟩

end Go.Proofs.Ytigjfnleinhahaa.PLog
