/- A log's Merge, whole. -/
import Derived.Test.YtigjfnleinhahaaMerge2
import Derived.Test.YtigjfnleinhahaaPLogx0
namespace Go.Proofs.Ytigjfnleinhahaa.PLog
open Go.RowKit Go.Proofs.YtigjfnleinhahaaW.PrintWords Go.Proofs.YtigjfnleinhahaaW.PrintLast Go.Proofs.YtigjfnleinhahaaW.PrintMore
open Go.Proofs.Ytigjfnleinhahaa.Reg
set_option linter.unusedVariables false
set_option linter.unusedSimpArgs false
set_option maxHeartbeats 4000000
set_option maxRecDepth 100000
theorem merge_calls_B1 {w : World} {ok : Nat → Prop} {g : Nat} {a t : Int} {es : List S60} (h : Log w ok g a t es) (h0 : 0 ≤ a) (x term : Int) (A1 : Option Addr) (c1 : Nat) (n : Nat) (hc1 : n ≤ c1)
    (h1 : a + es.length ≤ 2305843009213693952) (hx0 : 0 ≤ x) (hq : (n : Int) < a - x) :
    Calls Try.prog 17 #[.pointer (some ⟨g, 0, none⟩), .int .i64 x, .int .i64 term, .slice A1 n c1] w fun e w' => e = .returned (.tuple #[.int .i64 (a + es.length + 1), .bool true]) ∧ ∃ m, w' = w.drewN m := by
  obtain ⟨A, c, c0, -, -, -, hr⟩ := h.cells
  have HL := Aside0.mk h
  clear hr h
  have d0 : decide (a ≤ x) = false := decide_eq_false (by omega)
  have d00 : decide (x < 0) = false := decide_eq_false (by omega)
  obtain ⟨d, hd⟩ : ∃ d, d = a - x := ⟨_, rfl⟩
  have hwq : wrap64 (a - x) = d := by rw [hd]; unfold wrap64; omega
  have hqd : (n : Int) < d := by omega
  have dmin : decide ((n : Int) < d) = true := decide_eq_true hqd
  clear hd hq
  have hq00 : (0 : Int) ≤ (n : Int) := by omega
  have hw4 : wrap64 (a + (es.length : Int) + 1) = a + es.length + 1 := by unfold wrap64; omega
  by_cases hcn : c1 = n
  · rw [hcn]
    go_enter Try.func17, Try.ntmps17
    go_wp2_with fail
    go_quiet (fail)
    go_wp2_with fail
    go_loopw [55] (fun v wr => v = .int .i64 0 ∧ ∃ m, wr = w.drewN m) (fun v _ => 0)
    case atStart => exact ⟨rfl, _, rfl⟩
    case round =>
      obtain ⟨rfl, m, rfl⟩ := hrel
      have hz : n - n = 0 := Nat.sub_self n
      have d1 : decide ((0 : Int) < ((n - n : Nat) : Int)) = false := by rw [hz]; rfl
      go_wp2_with fail
      refine (last_calls (HL.out.drewN m) (by omega) (by omega)).mono ?_
      rintro _ w9 ⟨rfl, m9, rfl⟩
      go_wp2_with fail
      go_ret2
      exact ⟨by rw [← hw4]; rfl, _, rfl⟩
  · go_enter Try.func17, Try.ntmps17
    go_wp2_with fail
    go_quiet (fail)
    go_wp2_with fail
    go_loopw [55] (fun v wr => v = .int .i64 0 ∧ ∃ m, wr = w.drewN m) (fun v _ => 0)
    case atStart => exact ⟨rfl, _, rfl⟩
    case round =>
      obtain ⟨rfl, m, rfl⟩ := hrel
      have hz : n - n = 0 := Nat.sub_self n
      have d1 : decide ((0 : Int) < ((n - n : Nat) : Int)) = false := by rw [hz]; rfl
      go_wp2_with fail
      refine (last_calls (HL.out.drewN m) (by omega) (by omega)).mono ?_
      rintro _ w9 ⟨rfl, m9, rfl⟩
      go_wp2_with fail
      go_ret2
      exact ⟨by rw [← hw4]; rfl, _, rfl⟩
theorem merge_calls_N1 {w : World} {ok : Nat → Prop} {g : Nat} {a t : Int} {es : List S60} (h : Log w ok g a t es) (x term : Int) (V : Value) (hx0 : x < 0) (hxa : x < a) :
    Calls Try.prog 17 #[.pointer (some ⟨g, 0, none⟩), .int .i64 x, .int .i64 term, V] w fun e w' => e = .returned (.tuple #[.int .i64 0, .bool false]) ∧ ∃ m, w' = w.drewN m := by
  obtain ⟨A, c, c0, -, -, -, hr⟩ := h.cells
  clear hr h
  have d0 : decide (a ≤ x) = false := decide_eq_false (by omega)
  have d00 : decide (x < 0) = true := decide_eq_true hx0
  go_enter Try.func17, Try.ntmps17
  go_wp2_with fail
  go_ret2
  exact ⟨rfl, 0, rfl⟩
theorem merge_calls_N2 {w : World} {ok : Nat → Prop} {g : Nat} {a t : Int} {es : List S60} (h : Log w ok g a t es) (h0 : 0 ≤ a) (h1 : a + es.length ≤ 2305843009213693952) (x term : Int) (V : Value) (hxa : a ≤ x) (hT : termAt a t es x ≠ (term, true)) :
    Calls Try.prog 17 #[.pointer (some ⟨g, 0, none⟩), .int .i64 x, .int .i64 term, V] w fun e w' => e = .returned (.tuple #[.int .i64 0, .bool false]) ∧ ∃ m, w' = w.drewN m := by
  obtain ⟨A, c, c0, -, -, -, hr⟩ := h.cells
  have HL := Aside0.mk h
  clear hr h
  have d0 : decide (a ≤ x) = true := decide_eq_true hxa
  generalize hTT : termAt a t es x = T at hT
  have HT := Aside0.mk hTT
  clear hTT
  obtain ⟨Ta, Tb⟩ := T
  cases Tb with
  | true =>
    have hne : Ta ≠ term := fun e => hT (by rw [e])
    have d1 : decide (Ta = term) = false := decide_eq_false hne
    clear hT
    go_enter Try.func17, Try.ntmps17
    go_wp2_with fail
    refine (term_calls HL.out h0 (by omega) x).mono ?_
    rw [HT.out]
    rintro _ w1 ⟨rfl, m, rfl⟩
    go_wp2_with fail
    go_ret2
    exact ⟨rfl, _, rfl⟩
  | false =>
    clear hT
    go_enter Try.func17, Try.ntmps17
    go_wp2_with fail
    refine (term_calls HL.out h0 (by omega) x).mono ?_
    rw [HT.out]
    rintro _ w1 ⟨rfl, m, rfl⟩
    go_wp2_with fail
    go_ret2
    exact ⟨rfl, _, rfl⟩
theorem merge_calls {w : World} {ok : Nat → Prop} {g : Nat} {a t : Int} {es : List S60} (h : Log w ok g a t es) (h0 : 0 ≤ a) (x term : Int) (A : Option Addr) (c : Nat) (ys : List S60) (hC : Kd.C k60 w A ys.length ys) (hc : ys.length ≤ c) (hoks : ∀ x ∈ ys, okE x)
    (hl : (es.length + ys.length) * 192 ≤ 140737488355328) (h1 : a + es.length ≤ 2305843009213693952) :
    Calls Try.prog 17 #[.pointer (some ⟨g, 0, none⟩), .int .i64 x, .int .i64 term, .slice A ys.length c] w fun e w' => e = .returned (.tuple #[.int .i64 (mergeL a t es x term ys).1, .bool (mergeL a t es x term ys).2.1]) ∧ Log w' (fun k => ok k ∨ w.heap.size ≤ k) g a t (mergeL a t es x term ys).2.2 ∧ Kept w w' ok ∧ Below 0 w w' := by
  have still : ∀ m, Log (w.drewN m) (fun k => ok k ∨ w.heap.size ≤ k) g a t es ∧ Kept w (w.drewN m) ok ∧ Below 0 w (w.drewN m) := fun m => ⟨(h.drewN m).mono (fun _ hk => .inl hk), Kept.drewN (Kept.refl _ _) m, pw_below_drewN (Below.refl _ _) m⟩
  unfold mergeL
  by_cases e1 : a ≤ x
  · rw [if_pos e1]
    by_cases e2 : termAt a t es x = (term, true)
    · rw [if_pos e2]
      exact merge_calls_A h h0 x term A c ys hC hc hoks hl h1 e1 e2
    · rw [if_neg e2]
      refine (merge_calls_N2 h h0 h1 x term _ e1 e2).mono ?_
      rintro e w' ⟨rfl, m, rfl⟩
      exact ⟨rfl, still m⟩
  · rw [if_neg e1]
    by_cases e2 : x < 0
    · rw [if_pos e2]
      refine (merge_calls_N1 h x term _ e2 (by omega)).mono ?_
      rintro e w' ⟨rfl, m, rfl⟩
      exact ⟨rfl, still m⟩
    · rw [if_neg e2]
      obtain ⟨q, hq⟩ : ∃ q : Nat, a - x = q := ⟨(a - x).toNat, by omega⟩
      by_cases e3 : q ≤ ys.length
      · have e4 : min (a - x).toNat ys.length = q := by omega
        rw [e4, show x + (q : Int) = a by omega]
        exact merge_calls_B2 h h0 x term A c ys hC hc hoks hl h1 (by omega) q hq (by omega) e3
      · have e4 : min (a - x).toNat ys.length = ys.length := by omega
        rw [e4, List.drop_length]
        refine (merge_calls_B1 h h0 x term A c ys.length hc h1 (by omega) (by omega)).mono ?_
        rintro e w' ⟨rfl, m, rfl⟩
        exact ⟨rfl, still m⟩
end Go.Proofs.Ytigjfnleinhahaa.PLog
