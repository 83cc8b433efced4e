/- The methods of a log that only read (Last, Term, Newer), and New: what they answer, over a log that lies in blocks of its own. -/
import Derived.Test.YtigjfnleinhahaaPLogx1
import Derived.Test.YtigjfnleinhahaaReg
import Derived.Test.YtigjfnleinhahaaPLogx0
namespace Go.Proofs.Ytigjfnleinhahaa.PLog
open Go.RowKit Go.Proofs.YtigjfnleinhahaaW.PrintWords Go.Proofs.YtigjfnleinhahaaW.PrintLast Go.Proofs.YtigjfnleinhahaaW.PrintMore
open Go.Proofs.Ytigjfnleinhahaa.Reg
set_option linter.unusedVariables false
set_option linter.unusedSimpArgs false
/-- A log at block g: at, term, and the entries in blocks of ok. -/
def Log (w : World) (ok : Nat → Prop) (g : Nat) (a t : Int) (es : List S60) : Prop :=
  ok g ∧ ∃ v, w.heap[g]? = some (.cells #[.int .i64 a, .int .i64 t, v] 62 (0, 0)) ∧ Kd.R k60 60 w 0 (fun k => ok k ∧ k ≠ g) v es
theorem Log.step {w w' : World} {ok : Nat → Prop} {g : Nat} {a t : Int} {es : List S60} (h : Log w ok g a t es) (hm : ∀ k, ok k → k < w.heap.size → w'.heap[k]? = w.heap[k]?) : Log w' ok g a t es := by
  obtain ⟨h1, v, h2, h3⟩ := h
  exact ⟨h1, v, (hm g h1 (Array.getElem?_eq_some_iff.1 h2).1).trans h2, Kd.R_step h3 (fun k hk hlt => hm k hk.1 hlt)⟩
theorem Log.kept {w w' : World} {ok S : Nat → Prop} {g : Nat} {a t : Int} {es : List S60} (h : Log w ok g a t es) (hk : Kept w w' S) (hs : ∀ k, ok k → ¬ S k) : Log w' ok g a t es :=
  h.step (fun k ho hlt => hk.2 k hlt (hs k ho))
theorem Log.below {w w' : World} {ok : Nat → Prop} {g : Nat} {a t : Int} {es : List S60} (h : Log w ok g a t es) (hb : Below w.heap.size w w') : Log w' ok g a t es :=
  h.step (fun k _ hlt => hb.block k hlt)
theorem Log.drewN {w : World} {ok : Nat → Prop} {g : Nat} {a t : Int} {es : List S60} (h : Log w ok g a t es) (m : Nat) : Log (w.drewN m) ok g a t es := h.step (fun _ _ _ => rfl)
theorem Log.mono {w : World} {ok ok' : Nat → Prop} {g : Nat} {a t : Int} {es : List S60} (h : Log w ok g a t es) (hk : ∀ k, ok k → ok' k) : Log w ok' g a t es := by
  obtain ⟨h1, v, h2, h3⟩ := h
  exact ⟨hk g h1, v, h2, Kd.R_mono h3 (fun k hk' => ⟨hk k hk'.1, hk'.2⟩)⟩
theorem Log.bound {w : World} {ok : Nat → Prop} {g : Nat} {a t : Int} {es : List S60} (h : Log w ok g a t es) : Log w (fun k => ok k ∧ k < w.heap.size) g a t es := by
  obtain ⟨h1, v, h2, h3⟩ := h
  exact ⟨⟨h1, (Array.getElem?_eq_some_iff.1 h2).1⟩, v, h2, Kd.R_mono (Kd.R_bound h3) (fun k hk' => ⟨⟨hk'.1.1, hk'.2.2.1⟩, hk'.1.2⟩)⟩
theorem Log.cells {w : World} {ok : Nat → Prop} {g : Nat} {a t : Int} {es : List S60} (h : Log w ok g a t es) : ∃ A c, w.cell? ⟨g, 0, none⟩ = some (.int .i64 a) ∧ w.cell? ⟨g, 1, none⟩ = some (.int .i64 t) ∧ w.cell? ⟨g, 2, none⟩ = some (.slice A es.length c) ∧ es.length ≤ c ∧ Kd.C k60 w A es.length es := by
  obtain ⟨h1, v, h2, h3⟩ := h
  obtain ⟨A, c, rfl, hc, hr⟩ := Kd.R_reads h3
  refine ⟨A, c, ?_, ?_, ?_, hc, hr⟩ <;> simp [World.cell?, h2]
theorem last_calls {w : World} {ok : Nat → Prop} {g : Nat} {a t : Int} {es : List S60} (h : Log w ok g a t es) (h0 : -4611686018427387904 ≤ a) (h1 : a + es.length ≤ 4611686018427387904) :
    Calls Try.prog 10 #[.pointer (some ⟨g, 0, none⟩)] w fun e w' => e = .returned (.int .i64 (a + es.length)) ∧ ∃ m, w' = w.drewN m := by
  obtain ⟨A, c, c0, c1, c2, hc, hr⟩ := h.cells
  have HR := Aside0.mk hr
  clear hr h
  go_enter Try.func10, Try.ntmps10
  go_wp2
  go_quiet (fail)
  go_wp2
  have hw : wrap64 (a + (es.length : Int)) = a + es.length := by unfold wrap64; omega
  go_ret
  exact ⟨by simp [hw], _, rfl⟩
theorem drewN_two (w : World) (m n : Nat) : (w.drewN m).drewN n = w.drewN (m + n) := by
  simp [World.drewN, Nat.add_assoc]
def termAt (a t : Int) (es : List S60) (i : Int) : Int × Bool := if i = a then (t, true) else if a < i then (if i ≤ a + es.length then ((rd_T60 es (i - a - 1)).f0, true) else (0, false)) else (0, false)
theorem term_calls {w : World} {ok : Nat → Prop} {g : Nat} {a t : Int} {es : List S60} (h : Log w ok g a t es) (h0 : 0 ≤ a) (h1 : a + es.length ≤ 4611686018427387904) (i : Int) :
    Calls Try.prog 9 #[.pointer (some ⟨g, 0, none⟩), .int .i64 i] w fun e w' => e = .returned (.tuple #[.int .i64 (termAt a t es i).1, .bool (termAt a t es i).2]) ∧ ∃ m, w' = w.drewN m := by
  obtain ⟨A, c, c0, c1, c2, hc, hr⟩ := h.cells
  have HR := Aside0.mk hr
  have HL := Aside0.mk h
  clear hr h
  unfold termAt
  by_cases e : i = a
  · subst e
    have d0 : decide (i = i) = true := by simp
    rw [if_pos rfl]
    go_enter Try.func9, Try.ntmps9
    go_wp2
    go_ret2
    exact ⟨rfl, 0, rfl⟩
  · rw [if_neg e]
    have d0 : decide (i = a) = false := decide_eq_false e
    by_cases e1 : a < i
    · rw [if_pos e1]
      have d1 : decide (a < i) = true := decide_eq_true e1
      by_cases e2 : i ≤ a + es.length
      · rw [if_pos e2]
        have d2 : decide (i ≤ a + es.length) = true := decide_eq_true e2
        have p0 : 0 ≤ i - a - 1 := by omega
        have p1 : i - a - 1 < es.length := by omega
        obtain ⟨ad, A9, c9, A13, c13, rfl, hx, hrest⟩ := at_T60 HR.out (i - a - 1) p0 p1
        clear hrest
        have hx0 : w.cell? (ad.add (((i - a).toNat - 1) * 14)) = some (.int .i64 (rd_T60 es (i - a - 1)).f0) := by
          rw [show (i - a).toNat - 1 = (i - a - 1).toNat by omega]; exact hx
        clear hx
        have hw1 : wrap64 (i - a) = i - a := by unfold wrap64; omega
        have hw2 : wrap64 (i - a - 1) = i - a - 1 := by unfold wrap64; omega
        go_enter Try.func9, Try.ntmps9
        go_wp2_with fail
        refine (last_calls HL.out (by omega) h1).mono ?_
        rintro _ w1 ⟨rfl, m, rfl⟩
        go_wp2_with fail
        go_quiet (fail)
        go_wp2
        go_ret2
        exact ⟨rfl, _, drewN_two _ _ _⟩
      · rw [if_neg e2]
        have d2 : decide (i ≤ a + es.length) = false := decide_eq_false e2
        go_enter Try.func9, Try.ntmps9
        go_wp2_with fail
        refine (last_calls HL.out (by omega) h1).mono ?_
        rintro _ w1 ⟨rfl, m, rfl⟩
        go_wp2_with fail
        go_ret2
        exact ⟨rfl, _, rfl⟩
    · rw [if_neg e1]
      have d1 : decide (a < i) = false := decide_eq_false e1
      go_enter Try.func9, Try.ntmps9
      go_wp2_with fail
      go_ret2
      exact ⟨rfl, 0, rfl⟩
theorem newer_calls {w : World} {ok : Nat → Prop} {g : Nat} {a t : Int} {es : List S60} (h : Log w ok g a t es) (h0 : 0 ≤ a) (h1 : a + es.length ≤ 4611686018427387904) (x y : Int) :
    Calls Try.prog 11 #[.pointer (some ⟨g, 0, none⟩), .int .i64 x, .int .i64 y] w fun e w' => e = .returned (.bool (decide (y > (termAt a t es (a + es.length)).1) || (decide (y = (termAt a t es (a + es.length)).1) && decide (x ≥ a + es.length)))) ∧ ∃ m, w' = w.drewN m := by
  have HL := Aside0.mk h
  clear h
  generalize hT : termAt a t es (a + es.length) = T
  by_cases e : T.1 < y
  · have d : decide (T.1 < y) = true := decide_eq_true e
    go_enter Try.func11, Try.ntmps11
    go_wp2_with fail
    refine (last_calls HL.out (by omega) h1).mono ?_
    rintro _ w1 ⟨rfl, m, rfl⟩
    go_wp2_with fail
    refine (term_calls (HL.out.drewN m) h0 h1 (a + es.length)).mono ?_
    rw [hT]
    rintro _ w1 ⟨rfl, m2, rfl⟩
    go_wp2_with fail
    go_ret
    exact ⟨by simp [e], _, rfl⟩
  · have d : decide (T.1 < y) = false := decide_eq_false e
    by_cases e2 : y = T.1
    · subst e2
      go_enter Try.func11, Try.ntmps11
      go_wp2_with fail
      refine (last_calls HL.out (by omega) h1).mono ?_
      rintro _ w1 ⟨rfl, m, rfl⟩
      go_wp2_with fail
      refine (term_calls (HL.out.drewN m) h0 h1 (a + es.length)).mono ?_
      rw [hT]
      rintro _ w1 ⟨rfl, m2, rfl⟩
      go_wp2_with fail
      refine (last_calls (HL.out.drewN (m + m2)) (by omega) h1).mono ?_
      rintro _ w1 ⟨rfl, m3, rfl⟩
      go_wp2_with fail
      go_ret
      exact ⟨by simp, _, rfl⟩
    · have d2 : decide (y = T.1) = false := decide_eq_false e2
      go_enter Try.func11, Try.ntmps11
      go_wp2_with fail
      refine (last_calls HL.out (by omega) h1).mono ?_
      rintro _ w1 ⟨rfl, m, rfl⟩
      go_wp2_with fail
      refine (term_calls (HL.out.drewN m) h0 h1 (a + es.length)).mono ?_
      rw [hT]
      rintro _ w1 ⟨rfl, m2, rfl⟩
      go_wp2_with fail
      go_ret
      exact ⟨by simp [e, e2], _, rfl⟩
theorem new_calls (w : World) (x y : Int) :
    Calls Try.prog 13 #[.int .i64 x, .int .i64 y] w fun e w' => ∃ g, e = .returned (.pointer (some ⟨g, 0, none⟩)) ∧ w.heap.size ≤ g ∧ Log w' (fun k => w.heap.size ≤ k) g (max x 0) (max y 0) [] ∧ Below w.heap.size w w' := by
  have e1 : max x 0 = if 0 > x then 0 else x := by split <;> omega
  have e2 : max y 0 = if 0 > y then 0 else y := by split <;> omega
  rw [e1, e2]
  go_enter Try.func13, Try.ntmps13
  go_wp2
  all_goals go_ret
  all_goals exact ⟨_, rfl, Nat.le_refl _, ⟨Nat.le_refl _, _, heap_alloc_new _ _, Kd.R_nil _ _ _ _ _⟩, below_alloc (Below.refl _ _) _⟩
end Go.Proofs.Ytigjfnleinhahaa.PLog
