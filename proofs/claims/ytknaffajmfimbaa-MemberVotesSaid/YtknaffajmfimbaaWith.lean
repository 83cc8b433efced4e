/- With one more node. -/
import Derived.Test.YtknaffajmfimbaaPHx1
import Derived.Test.YtknaffajmfimbaaSorted
import Derived.Test.YtknaffajmfimbaaWMore
import Derived.WalkSpells
namespace Go.Proofs.Ytknaffajmfimbaa.PW
open Go.RowKit Go.Proofs.YtknaffajmfimbaaW.PrintWords Go.Proofs.YtknaffajmfimbaaW.PrintLast Go.Proofs.YtknaffajmfimbaaW.PrintMore
open Go.Proofs.Ytknaffajmfimbaa
set_option linter.unusedVariables false
set_option linter.unusedSimpArgs false
set_option maxHeartbeats 4000000
set_option maxRecDepth 100000

/-- Right nodes behind a last one. -/
def rightGo : Int → List Int → Bool
  | _, [] => true
  | last, n :: l => if n ≤ last then false else if n ≥ 7 then false else rightGo n l
def rightB (l : List Int) : Bool := rightGo (-1) l && decide (0 < l.length)
theorem right_loop (ys : List Int) (hl : ys.length ≤ 9223372036854775806) : ∀ (n i : Nat) (last : Int) (k : Nat), i + n = ys.length → n < k → PH.member_Right.l0 k ys last ys (ys.length : Int) (i : Int) = some (rightGo last (ys.drop i) && decide (0 < ys.length))
  | 0, i, last, 0, _, hk => absurd hk (Nat.lt_irrefl _)
  | 0, i, last, k + 1, h, _ => by
    unfold PH.member_Right.l0
    rw [if_neg (by omega), List.drop_of_length_le (by omega)]
    simp [rightGo]
  | n + 1, i, last, 0, h, hk => by omega
  | n + 1, i, last, k + 1, h, hk => by
    have hi : i < ys.length := by omega
    have hd : ys.drop i = ys[i] :: ys.drop (i + 1) := List.drop_eq_getElem_cons hi
    have hr : rd ys (i : Int) = ys[i] := by simp [rd, hi]
    unfold PH.member_Right.l0
    rw [if_pos (by omega), if_pos (by omega), if_pos (by omega), hr, hd, show wrap64 ((i : Int) + 1) = ((i + 1 : Nat) : Int) by unfold wrap64; omega]
    simp only [rightGo]
    by_cases h1 : ys[i] ≤ last
    · rw [if_pos h1, if_pos h1]; rfl
    · rw [if_neg h1, if_neg h1]
      by_cases h2 : ys[i] ≥ 7
      · rw [if_pos h2, if_pos h2]; rfl
      · rw [if_neg h2, if_neg h2]
        exact right_loop ys hl n (i + 1) ys[i] k (by omega) (by omega)
theorem right_is (ys : List Int) (hl : ys.length ≤ 9223372036854775806) (k : Nat) (hk : ys.length < k) : PH.member_Right.f k ys = some (rightB ys) := by
  unfold PH.member_Right.f
  exact right_loop ys hl ys.length 0 (-1) k (by omega) hk
theorem index_loop (ys : List Int) (x : Int) (hl : ys.length ≤ 9223372036854775806) : ∀ (n i : Nat) (k : Nat), i + n = ys.length → n < k → (∃ r, PH.slices_Index_int_int.l0 k ys x (ys.length : Int) (i : Int) = some r ∧ decide (r ≥ 0) = (ys.drop i).contains x)
  | 0, i, 0, _, hk => absurd hk (Nat.lt_irrefl _)
  | 0, i, k + 1, h, _ => by
    unfold PH.slices_Index_int_int.l0
    rw [if_neg (by omega), List.drop_of_length_le (by omega)]
    exact ⟨-1, rfl, by simp⟩
  | n + 1, i, 0, h, hk => by omega
  | n + 1, i, k + 1, h, hk => by
    have hi : i < ys.length := by omega
    have hd : ys.drop i = ys[i] :: ys.drop (i + 1) := List.drop_eq_getElem_cons hi
    have hr : rd ys (i : Int) = ys[i] := by simp [rd, hi]
    unfold PH.slices_Index_int_int.l0
    rw [if_pos (by omega), if_pos (by omega), if_pos (by omega), hr, hd, show wrap64 ((i : Int) + 1) = ((i + 1 : Nat) : Int) by unfold wrap64; omega]
    by_cases h1 : x = ys[i]
    · rw [if_pos h1]
      refine ⟨_, rfl, ?_⟩
      rw [h1, List.contains_cons, decide_eq_true (by omega)]
      simp
    · rw [if_neg h1]
      obtain ⟨r, h2, h3⟩ := index_loop ys x hl n (i + 1) k (by omega) (by omega)
      refine ⟨r, h2, ?_⟩
      rw [h3, List.contains_cons]
      have : (x == ys[i]) = false := by rw [beq_eq_false_iff_ne]; exact h1
      rw [this, Bool.false_or]
theorem has_is (ys : List Int) (x : Int) (hl : ys.length ≤ 9223372036854775806) (k : Nat) (hk : ys.length < k) : PH.member_Has.f k ys x = some (ys.contains x) := by
  unfold PH.member_Has.f PH.slices_Contains_int_int.f PH.slices_Index_int_int.f
  obtain ⟨r, h1, h2⟩ := index_loop ys x hl ys.length 0 k (by omega) hk
  simp only [Int.natCast_zero] at h1
  rw [h1]
  simp only [Option.bind_some]
  rw [h2, List.drop_zero]
theorem has_calls (w : World) (A : Option Addr) (c : Nat) (l : List Int) (x : Int) (hC : Kd.C (Kd.int .i64) w A l.length l) (hc : l.length ≤ c) (hl : l.length ≤ 9223372036854775806) :
    Calls Try.prog 15 #[.slice A l.length c, .int .i64 x] w fun e w' => e = .returned (.bool (l.contains x)) ∧ Below w.heap.size w w' :=
  (PH.member_Has.calls (l.length + 1) A c l x _ w hC hc (has_is l x hl _ (by omega))).mono fun _ _ h => ⟨h.1, h.2.below⟩
theorem right_calls (w : World) (A : Option Addr) (c : Nat) (l : List Int) (hC : Kd.C (Kd.int .i64) w A l.length l) (hc : l.length ≤ c) (hl : l.length ≤ 9223372036854775806) :
    Calls Try.prog 13 #[.slice A l.length c] w fun e w' => e = .returned (.bool (rightB l)) ∧ Below w.heap.size w w' :=
  (PH.member_Right.calls (l.length + 1) A c l _ w hC hc (right_is l hl _ (by omega))).mono fun _ _ h => ⟨h.1, h.2.below⟩
theorem empty3 (W : World) (base : Nat) (hb : base ≤ W.heap.size) : Kd.R (Kd.int .i64) 3 (W.alloc (.cells #[] 3)) base (fun _ => True) (.slice (some ⟨W.heap.size, 0, none⟩) 0 0) [] :=
  ⟨fun _ _ => trivial, [], World.ownsRow_lit (base := base) (e := 3) (size := 1) W #[] 0 hb (by simp [maxLen]) (by simp), Reps.none _ _⟩
theorem info3 : (Try.prog.info? 3).map (fun i => (i.zero, i.size, i.bytes)) = some (some (.int .i64 0), 1, 8) := by kernel_rfl
theorem clone_calls (w : World) (A : Option Addr) (c : Nat) (l : List Int) (hC : Kd.C (Kd.int .i64) w A l.length l) (hc : l.length ≤ c) (hl : l.length < 17592186044416) :
    Calls Try.prog 26 #[.slice A l.length c] w fun e w' => ∃ v, e = .returned v ∧ Kd.R (Kd.int .i64) 3 w' w.heap.size (fun _ => True) v l ∧ Below w.heap.size w w' := by
  cases A with
  | none =>
    have hz : l = [] := by
      rcases Nat.eq_zero_or_pos l.length with h | h
      · exact List.eq_nil_of_length_eq_zero h
      · obtain ⟨ad, h1, _⟩ := hC.2.2 h
        cases h1
    subst hz
    refine (Try.slices_Clone_nil 0 c w).mono ?_
    rintro e w' ⟨rfl, rfl⟩
    exact ⟨_, rfl, Kd.R_nil _ _ _ _ _, Below.refl _ _⟩
  | some ad =>
    have hb := below_alloc (Below.refl w.heap.size w) (Obj.cells #[] 3)
    have HC := Aside0.mk (Kd.C_below hC hb)
    have HE := Aside0.mk (empty3 w w.heap.size (Nat.le_refl _))
    have HB := Aside0.mk hb
    have HL := Aside0.mk hl
    have hq := fun (W : World) (n c : Nat) => Lib.run_eql_slice_nil (P := Try.prog) W 22 3 (some ad) n c 0 0 Try.underlying22
    clear hC hb hl
    generalize hn : l.length = n at *
    go_enter Try.func26, Try.ntmps26
    go_wp2_with (first
      | (at_builtin
         refine Kd.R_append_row (enc := Value.int .i64) (d := (0 : Int)) (h1 := fun _ => rfl) (w0 := w) w.heap.size rfl (.tmp 5) (.tmp 6) 22 3 (.int .i64 0) 8 rfl Try.underlying22 info3 rfl (by decide) _ [] l (some ad) n c (fun _ => True) rfl rfl (fun _ _ => trivial) HE.out HC.out HB.out HB.out.size (by have := HL.out; simp only [List.length_nil]; omega) ?_
         intro v1 w1 hR1 hB1 hg1 hat1
         rw [List.nil_append] at hR1)
      | fail)
    go_ret
    exact ⟨_, rfl, hR1, hB1⟩
theorem checked_calls {w w0 : World} {v : Value} {l : List Int} (h : Kd.R (Kd.int .i64) 3 w w0.heap.size (fun _ => True) v l) (hb : Below w0.heap.size w0 w) (hl : l.length ≤ 9223372036854775806) :
    Calls Try.prog 23 #[v] w fun e w' => ∃ v', e = .returned (.tuple #[v', .bool (rightB l)]) ∧ Kd.R (Kd.int .i64) 3 w' w0.heap.size (fun _ => True) v' (if rightB l = true then l else []) ∧ Below w0.heap.size w0 w' := by
  obtain ⟨A, c, rfl⟩ := Kd.R_slice h
  have HR := Aside0.mk h
  have HB := Aside0.mk hb
  have HC := Aside0.mk (right_calls w A c l (Kd.R_reads' h).2.2 (Kd.R_reads' h).2.1 hl)
  clear h hb
  generalize l.length = n at *
  cases hq : rightB l with
  | true =>
    rw [hq] at HC
    have HQ := Aside0.mk hq
    clear hq
    go_enter Try.func23, Try.ntmps23
    go_wp2_with fail
    refine HC.out.mono ?_
    rintro _ w1 ⟨rfl, hb1⟩
    have HB1 := Aside0.mk hb1
    clear hb1
    go_wp2_with fail
    go_ret2
    exact ⟨_, rfl, Kd.R_below HR.out HB1.out, HB.out.trans (HB1.out.mono HB.out.size)⟩
  | false =>
    rw [hq] at HC
    have HQ := Aside0.mk hq
    clear hq
    go_enter Try.func23, Try.ntmps23
    go_wp2_with fail
    refine HC.out.mono ?_
    rintro _ w1 ⟨rfl, hb1⟩
    have HB1 := Aside0.mk hb1
    clear hb1
    go_wp2_with fail
    go_ret2
    exact ⟨_, rfl, Kd.R_nil _ _ _ _ _, HB.out.trans (HB1.out.mono HB.out.size)⟩
theorem ints_of {n₀ : Nat} {W : World} {A : Option Addr} {c : Nat} {l : List Int} {base : Nat} (h : Kd.R (Kd.int .i64) 3 W base (fun _ => True) (.slice A l.length c) l) (hn : W.heap.size ≤ n₀) : PIt.Ints n₀ W (.slice A l.length c) l := by
  have ho := Kd.own_of_R h
  rcases ho.2 with ⟨h1, h2⟩ | ⟨g, cap, cur, h1, hb, hg, r1, r2, r3, r4⟩
  · exact .inl ⟨h1, List.eq_nil_of_length_eq_zero h2⟩
  · refine .inr ⟨g, 0, cap, h1, Nat.lt_of_lt_of_le (Array.getElem?_eq_some_iff.1 hg).1 hn, fun j hj => ?_⟩
    have hc := ho.cells (g := g) (by rw [h1]; simp [Value.ownBlock]) j (.int .i64 (l[j]?.getD 0)) (by simp [encs, hj])
    rw [Nat.zero_add]
    rw [add_plain] at hc
    first | exact hc | (rw [Nat.zero_add] at hc; exact hc)
def sortL (l : List Int) : List Int := l.mergeSort fun x y => decide (x ≤ y)
def withB (l : List Int) (n : Int) : List Int × Bool := if l.contains n = true then ([], false) else if rightB (sortL (l ++ [n])) = true then (sortL (l ++ [n]), true) else ([], false)

end Go.Proofs.Ytknaffajmfimbaa.PW
namespace Go.Proofs.Ytknaffajmfimbaa.PM
open Go.RowKit Go.Proofs.YtknaffajmfimbaaW.PrintWords Go.Proofs.YtknaffajmfimbaaW.PrintLast Go.Proofs.YtknaffajmfimbaaW.PrintMore Go.Proofs.Ytknaffajmfimbaa Go.Proofs.Ytknaffajmfimbaa.PW
def member_With.f (l : List Int) (n : Int) : Option (List Int × Bool) := if l.length < 17592186043000 then some (withB l n) else none

set_option maxHeartbeats 4000000 in
theorem member_With.calls (A0 : Option Addr) (c0 : Nat) (l0 : List Int) (a1 : Int) (r1 : List Int) (r2 : Bool) (w : World) (hr0 : Kd.C (Kd.int .i64) w A0 l0.length l0) (hc0 : l0.length ≤ c0) (h : member_With.f l0 a1 = some (r1, r2)) :
    Calls Try.prog 8 #[.slice A0 l0.length c0, .int .i64 a1] w fun e w' => ∃ v0_ : Value, e = .returned (.tuple #[v0_, .bool r2]) ∧ Kd.R (Kd.int .i64) 3 w' w.heap.size (fun _ => True) v0_ r1 ∧ Below w.heap.size w w' := by
  unfold member_With.f at h
  by_cases hl : l0.length < 17592186043000
  · rw [if_pos hl] at h
    injection h with h
    have HH := Aside0.mk h
    have HC := Aside0.mk hr0
    have HL := Aside0.mk (And.intro hl hc0)
    have HHas := Aside0.mk (has_calls w A0 c0 l0 a1 hr0 hc0 (by omega))
    clear h hr0 hl hc0
    cases hq : l0.contains a1 with
    | true =>
      rw [hq] at HHas
      have HQ := Aside0.mk hq
      clear hq
      have he : withB l0 a1 = ([], false) := by unfold withB; rw [if_pos HQ.out]
      obtain ⟨rfl, rfl⟩ : r1 = [] ∧ r2 = false := by
        have h := HH.out
        rw [he] at h
        injection h with h1 h2
        exact ⟨h1.symm, h2.symm⟩
      clear he
      generalize l0.length = n at *
      go_enter Try.func8, Try.ntmps8
      go_wp2_with fail
      refine HHas.out.mono ?_
      rintro _ w1 ⟨rfl, hb1⟩
      have HB1 := Aside0.mk hb1
      clear hb1
      go_wp2_with fail
      go_ret2
      exact ⟨_, rfl, Kd.R_nil _ _ _ _ _, HB1.out⟩
    | false =>
      rw [hq] at HHas
      have HQ := Aside0.mk hq
      clear hq
      have he : withB l0 a1 = if rightB (sortL (l0 ++ [a1])) = true then (sortL (l0 ++ [a1]), true) else ([], false) := by unfold withB; rw [if_neg (by rw [HQ.out]; decide)]
      have HE := Aside0.mk he
      clear he
      have hlen : (sortL (l0 ++ [a1])).length = l0.length + 1 := by unfold sortL; simp
      generalize hn : l0.length = n at *
      have HN := Aside0.mk hn
      have HLN := Aside0.mk hlen
      clear hn hlen
      go_enter Try.func8, Try.ntmps8
      go_wp2_with fail
      refine HHas.out.mono ?_
      rintro _ w1 ⟨rfl, hb1⟩
      have HB1 := Aside0.mk hb1
      have hcl := clone_calls w1 A0 c0 l0 (by rw [HN.out]; exact Kd.C_below HC.out hb1) (by rw [HN.out]; exact HL.out.2) (by rw [HN.out]; have := HL.out.1; omega)
      rw [HN.out] at hcl
      have HCL := Aside0.mk hcl
      clear hb1 hcl
      go_wp2_with fail
      refine HCL.out.mono ?_
      clear HCL
      rintro _ w2 ⟨v, rfl, hR2, hb2⟩
      obtain ⟨A2, c2, rfl⟩ := Kd.R_slice hR2
      rw [HN.out] at hR2 ⊢
      have HB2 := Aside0.mk (show Below w.heap.size w w2 from HB1.out.trans (hb2.mono HB1.out.size))
      have HR2 := Aside0.mk (Kd.R_lower hR2 HB1.out.size)
      clear hR2 hb2
      go_wp2_with (first
        | (at_builtin
           refine print_append_of (w0 := w) (Value.int .i64) w.heap.size rfl (.tmp 10) (.tmp 12) 22 3 (.int .i64 0) 8 rfl Try.underlying22 info3 rfl (by decide) (.slice A2 n c2) l0 a1 rfl rfl rfl (by have h := Kd.own_of_R HR2.out; exact h) HB2.out HB2.out.size (by rw [HN.out]; have := HL.out.1; omega) ?_
           intro v3 w3 hO3 hB3 hg3 hat3
           have hR3 : Kd.R (Kd.int .i64) 3 w3 w.heap.size (fun _ => True) v3 (l0 ++ [a1]) := Kd.R_of_own (h1 := fun _ => rfl) hO3 (fun _ _ => trivial)
           obtain ⟨A3, c3, rfl⟩ := Kd.R_slice hR3
           have hl3 : (l0 ++ [a1]).length = n + 1 := by rw [List.length_append, HN.out]; rfl
           have HR3 := Aside0.mk hR3
           have HL3 := Aside0.mk hl3
           rw [hl3]
           have HB3 := Aside0.mk hB3
           clear hO3 hB3 hg3 hat3 hR3 hl3)
        | fail)
      refine (PIt.values_calls A3 (n + 1) c3 w3).mono ?_
      rintro _ w4 ⟨rfl, rfl⟩
      have hsc := PIt.sorted_calls w3.heap.size w3.heap.size (.slice A3 (n + 1) c3) (l0 ++ [a1]) (by rw [HL3.out]; have := HL.out.1; omega) (w3.alloc (.cells #[.slice A3 (n + 1) c3] 22)) (by simp) (by simp) ((blk_cell (heap_alloc_new w3 _) 0).trans rfl) (by
        have h := ints_of HR3.out (Nat.le_refl _)
        rw [HL3.out] at h
        exact h.below ((below_alloc (Below.refl _ _) _)))
      have HSC := Aside0.mk hsc
      clear hsc
      go_wp2_with fail
      refine HSC.out.mono ?_
      clear HSC
      rintro _ w5 ⟨v5, rfl, hO5, hb5⟩
      have hB5 : Below w.heap.size w w5 := HB3.out.trans (((below_alloc (Below.refl w3.heap.size w3) _).trans (hb5.mono (by simp))).mono HB3.out.size)
      have hR5 : Kd.R (Kd.int .i64) 3 w5 w.heap.size (fun _ => True) v5 (sortL (l0 ++ [a1])) := Kd.R_lower (Kd.R_of_own (h1 := fun _ => rfl) (by
        have e : (l0 ++ [a1]).length = (sortL (l0 ++ [a1])).length := by rw [HL3.out, HLN.out]
        rw [e] at hO5
        exact hO5) (fun _ _ => trivial)) (by have := HB3.out.size; simp; omega)
      have HCK := Aside0.mk (checked_calls hR5 hB5 (by rw [HLN.out]; have := HL.out.1; omega))
      obtain ⟨A5, c5, rfl⟩ := Kd.R_slice hR5
      rw [HLN.out] at HCK ⊢
      clear hO5 hb5 hB5 hR5
      have hr : r2 = rightB (sortL (l0 ++ [a1])) ∧ r1 = (if rightB (sortL (l0 ++ [a1])) = true then sortL (l0 ++ [a1]) else []) := by
        have h := HH.out
        rw [HE.out] at h
        split at h
        · rename_i hc
          injection h with h1 h2
          rw [if_pos hc, hc]
          exact ⟨h2.symm, h1.symm⟩
        · rename_i hc
          injection h with h1 h2
          rw [if_neg hc]
          exact ⟨by rw [← h2]; exact (Bool.eq_false_iff.2 hc).symm, h1.symm⟩
      rw [← hr.2, ← hr.1] at HCK
      clear hr
      go_wp2_with fail
      refine HCK.out.mono ?_
      rintro _ w6 ⟨v6, rfl, hR6, hB6⟩
      have HR6 := Aside0.mk (And.intro hR6 hB6)
      obtain ⟨A6, c6, rfl⟩ := Kd.R_slice hR6
      clear hR6 hB6
      generalize r1.length = m at *
      go_wp2_with fail
      go_ret2
      exact ⟨_, rfl, HR6.out⟩
  · rw [if_neg hl] at h
    cases h

end Go.Proofs.Ytknaffajmfimbaa.PM
