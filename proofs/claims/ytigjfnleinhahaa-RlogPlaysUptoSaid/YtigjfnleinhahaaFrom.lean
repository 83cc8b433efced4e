/- A log's From: copies of the entries from a place on, so many at most. -/
import Derived.Test.YtigjfnleinhahaaLog
import Derived.Test.YtigjfnleinhahaaOwn
import Derived.Test.YtigjfnleinhahaaPLogx0
namespace Go.Proofs.Ytigjfnleinhahaa.PLog
open Go.RowKit Go.Proofs.YtigjfnleinhahaaW.PrintWords Go.Proofs.YtigjfnleinhahaaW.PrintLast Go.Proofs.YtigjfnleinhahaaW.PrintMore
open Go.Proofs.Ytigjfnleinhahaa.Reg
set_option linter.unusedVariables false
set_option linter.unusedSimpArgs false
def fromL (a : Int) (es : List S60) (i most : Int) : List S60 := if i ≤ a then [] else if a + es.length < i then [] else if most < 1 then [] else (es.drop (i - a - 1).toNat).take most.toNat
theorem from_calls {w : World} {ok : Nat → Prop} {g : Nat} {a t : Int} {es : List S60} (h : Log w ok g a t es) (h0 : 0 ≤ a) (h1 : a + es.length ≤ 4611686018427387904) (i most : Int) (hm : most ≤ 9223372036854775807)
    (hlen : es.length ≤ 733007751850) (hoks : ∀ x ∈ es, okE x) :
    Calls Try.prog 16 #[.pointer (some ⟨g, 0, none⟩), .int .i64 i, .int .i64 most] w fun e w' => ∃ v, e = .returned v ∧ Kd.R k60 60 w' w.heap.size (fun _ => True) v (fromL a es i most) ∧ Below w.heap.size w w' := by
  obtain ⟨A, c, c0, c1, c2, hc, hr⟩ := h.cells
  have HR := Aside0.mk hr
  have HL := Aside0.mk h
  have HO := Aside0.mk hoks
  have HE := Aside0.mk hlen
  clear hr h hoks hlen
  unfold fromL
  by_cases e1 : i ≤ a
  · rw [if_pos e1]
    have d1 : decide (i ≤ a) = true := decide_eq_true e1
    go_enter Try.func16, Try.ntmps16
    go_wp2_with fail
    go_ret
    exact ⟨_, rfl, Kd.R_nil _ _ _ _ _, Below.refl _ _⟩
  · rw [if_neg e1]
    have d1 : decide (i ≤ a) = false := decide_eq_false e1
    by_cases e2 : a + es.length < i
    · rw [if_pos e2]
      have d2 : decide (a + es.length < i) = true := decide_eq_true e2
      go_enter Try.func16, Try.ntmps16
      go_wp2_with fail
      refine (last_calls HL.out (by omega) h1).mono ?_
      rintro _ w1 ⟨rfl, m, rfl⟩
      go_wp2_with fail
      go_ret
      exact ⟨_, rfl, Kd.R_nil _ _ _ _ _, pw_below_drewN (Below.refl _ _) m⟩
    · rw [if_neg e2]
      have d2 : decide (a + es.length < i) = false := decide_eq_false e2
      by_cases e3 : most < 1
      · rw [if_pos e3]
        have d3 : decide (most < 1) = true := decide_eq_true e3
        go_enter Try.func16, Try.ntmps16
        go_wp2_with fail
        refine (last_calls HL.out (by omega) h1).mono ?_
        rintro _ w1 ⟨rfl, m, rfl⟩
        go_wp2_with fail
        go_ret
        exact ⟨_, rfl, Kd.R_nil _ _ _ _ _, pw_below_drewN (Below.refl _ _) m⟩
      · rw [if_neg e3]
        have d3 : decide (most < 1) = false := decide_eq_false e3
        obtain ⟨q, hq⟩ : ∃ q : Nat, i - a - 1 = (q : Int) := ⟨(i - a - 1).toNat, by omega⟩
        obtain ⟨z, hz⟩ : ∃ z : Nat, most = (z : Int) := ⟨most.toNat, by omega⟩
        have hqn : q < es.length := by omega
        have hw1 : wrap64 (i - a) = i - a := by unfold wrap64; omega
        have hw2 : wrap64 (i - a - 1) = (q : Int) := by rw [← hq]; unfold wrap64; omega
        have t1 : (i - a - 1).toNat = q := by omega
        have t2 : most.toNat = z := by omega
        rw [t1, t2]
        subst hz
        obtain ⟨ad, rfl, -⟩ := HR.out.2.2 (by omega)
        have hD : Kd.C k60 w (some (ad.add (q * 14))) (es.drop q).length (es.drop q) := by
          have := Kd.C_drop HR.out (m := q) (by omega) hc
          rw [if_neg (by omega)] at this
          exact this
        have hT : Kd.C k60 w (some (ad.add (q * 14))) ((es.drop q).take z).length ((es.drop q).take z) := by
          by_cases hz : z ≤ (es.drop q).length
          · exact Kd.C_take hD hz
          · rw [List.take_of_length_le (by omega)]; exact hD
        have hlt : ((es.drop q).take z).length = min z (es.length - q) := by rw [List.length_take, List.length_drop]
        have hid := owned_id ((es.drop q).take z) (by rw [hlt]; have := HE.out; omega) (fun x hx => HO.out x (List.mem_of_mem_drop (List.mem_of_mem_take hx)))
        have HT := Aside0.mk (And.intro hT hid)
        clear hT hD hid
        have fin : ∀ n W, n = min z (es.length - q) → Below w.heap.size w W → Calls Try.prog 28 #[.slice (some (ad.add (q * 14))) n (c - q)] W fun e w' => ∃ v, e = .returned v ∧ Kd.R k60 60 w' w.heap.size (fun _ => True) v ((es.drop q).take z) ∧ Below w.heap.size w w' := by
          intro n W hn hb
          have hc' := rlog_owned.calls _ (some (ad.add (q * 14))) (c - q) ((es.drop q).take z) _ W (Kd.C_below HT.out.1 hb) (by rw [hlt]; omega) HT.out.2
          rw [hlt, ← hn] at hc'
          refine hc'.mono ?_
          rintro e w' ⟨v, rfl, hS, hb2⟩
          exact ⟨v, rfl, Kd.R_lower (Kd.S_R hS) hb.size, hb.trans (hb2.mono hb.size)⟩
        have FIN := Aside0.mk fin
        clear fin
        by_cases hmz : z < es.length - q
        · go_enter Try.func16, Try.ntmps16
          go_wp2_with fail
          refine (last_calls HL.out (by omega) h1).mono ?_
          rintro _ w1 ⟨rfl, m, rfl⟩
          go_wp2_with fail
          go_quiet (fail)
          go_wp2_with fail
          refine (FIN.out z _ (by omega) (pw_below_drewN (Below.refl _ _) _)).mono ?_
          rintro _ w2 ⟨v, rfl, hv⟩
          have HV := Aside0.mk hv
          clear hv
          go_wp2_with fail
          go_ret
          exact ⟨_, rfl, HV.out⟩
        · go_enter Try.func16, Try.ntmps16
          go_wp2_with fail
          refine (last_calls HL.out (by omega) h1).mono ?_
          rintro _ w1 ⟨rfl, m, rfl⟩
          go_wp2_with fail
          go_quiet (fail)
          go_wp2_with fail
          refine (FIN.out (es.length - q) _ (by omega) (pw_below_drewN (Below.refl _ _) _)).mono ?_
          rintro _ w2 ⟨v, rfl, hv⟩
          have HV := Aside0.mk hv
          clear hv
          go_wp2_with fail
          go_ret
          exact ⟨_, rfl, HV.out⟩
end Go.Proofs.Ytigjfnleinhahaa.PLog
