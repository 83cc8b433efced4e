/- RlogNewer: the walk. -/
import Derived.Test.YtigjfnleinhahaaNwR
namespace Go.Proofs.Ytigjfnleinhahaa.PLog
open Go.RowKit Go.Proofs.YtigjfnleinhahaaW.PrintWords Go.Proofs.YtigjfnleinhahaaW.PrintLast Go.Proofs.YtigjfnleinhahaaW.PrintMore
open Go.Proofs.Ytigjfnleinhahaa.Reg
set_option linter.unusedVariables false
set_option linter.unusedSimpArgs false
set_option maxHeartbeats 8000000
set_option maxRecDepth 100000
/-- What a log answers of its end: n entries, the last one's term s. -/
def Lg (w : World) (g n : Nat) (s : Int) : Prop :=
  (∀ m, Calls Try.prog 10 #[.pointer (some ⟨g, 0, none⟩)] (w.drewN m) fun e w' => e = .returned (.int .i64 n) ∧ ∃ k, w' = w.drewN k) ∧
  (∀ m, Calls Try.prog 9 #[.pointer (some ⟨g, 0, none⟩), .int .i64 n] (w.drewN m) fun e w' => e = .returned (.tuple #[.int .i64 s, .bool true]) ∧ ∃ k, w' = w.drewN k) ∧
  (∀ m x y, Calls Try.prog 11 #[.pointer (some ⟨g, 0, none⟩), .int .i64 x, .int .i64 y] (w.drewN m) fun e w' => e = .returned (.bool (decide (y > s) || (decide (y = s) && decide (x ≥ n)))) ∧ ∃ k, w' = w.drewN k)
theorem term_rep (n : Nat) (t : Int) : termAt 0 0 (List.replicate n (en t)) (n : Int) = (if n = 0 then 0 else t, true) := by
  unfold termAt
  by_cases h : n = 0
  · subst h; rfl
  · rw [if_neg (by omega), if_pos (by omega), if_pos (by simp), if_neg h]
    have : rd_T60 (List.replicate n (en t)) ((n : Int) - 0 - 1) = en t := by
      unfold rd_T60
      rw [List.getD_eq_getElem?_getD, List.getElem?_replicate, if_pos (by omega)]
      rfl
    rw [this]
    rfl
theorem Lg.of {w : World} {g n : Nat} {t : Int} (hn : n ≤ 4) (h : Log w (fun _ => True) g 0 0 (List.replicate n (en t))) : Lg w g n (if n = 0 then 0 else t) := by
  have hl : (List.replicate n (en t)).length = n := List.length_replicate ..
  refine ⟨fun m => ?_, fun m => ?_, fun m x y => ?_⟩
  · refine (last_calls (h.drewN m) (by decide) (by rw [hl]; omega)).mono ?_
    rintro _ _ ⟨rfl, k, rfl⟩
    rw [hl]
    exact ⟨by simp, _, drewN_two _ _ _⟩
  · refine (term_calls (h.drewN m) (by decide) (by rw [hl]; omega) (n : Int)).mono ?_
    rw [term_rep]
    rintro _ _ ⟨rfl, k, rfl⟩
    exact ⟨rfl, _, drewN_two _ _ _⟩
  · refine (newer_calls (h.drewN m) (by decide) (by rw [hl]; omega) x y).mono ?_
    rw [hl, show (0 : Int) + (n : Int) = n by omega, term_rep]
    rintro _ _ ⟨rfl, k, rfl⟩
    exact ⟨rfl, _, drewN_two _ _ _⟩
theorem Made.lg {y : Int} {v : Value} {w : World} (h : Made y v w) : ∃ g n s, v = .pointer (some ⟨g, 0, none⟩) ∧ n ≤ 4 ∧ 0 ≤ s ∧ Lg w g n s := by
  obtain ⟨g, n, h1, h2, h3⟩ := h
  exact ⟨g, n, _, h1, h2, by split <;> omega, Lg.of h2 h3⟩
theorem newer_law (w : World) (x1 y1 x2 y2 x3 y3 : Int) (hr : (-9223372036854775808 ≤ x1 ∧ x1 ≤ 9223372036854775807) ∧ (-9223372036854775808 ≤ y1 ∧ y1 ≤ 9223372036854775807) ∧ (-9223372036854775808 ≤ x2 ∧ x2 ≤ 9223372036854775807) ∧ (-9223372036854775808 ≤ y2 ∧ y2 ≤ 9223372036854775807) ∧ (-9223372036854775808 ≤ x3 ∧ x3 ≤ 9223372036854775807) ∧ (-9223372036854775808 ≤ y3 ∧ y3 ≤ 9223372036854775807)) :
    Calls Try.prog 3 #[.agg #[.int .i64 x1, .int .i64 y1], .agg #[.int .i64 x2, .int .i64 y2], .agg #[.int .i64 x3, .int .i64 y3]] w fun e w' => e = .returned (.bool true) ∧ Below w.heap.size w w' := by
  have HR := Aside0.mk hr
  clear hr
  go_enter Try.func3, Try.ntmps3
  go_wp2_with fail
  refine (first_calls _).mono ?_
  rintro _ w1 ⟨rfl, hb⟩
  have hI : IN w1 w.heap.size (w.heap.size + 1) (w.heap.size + 1 + 1) x1 y1 x2 y2 x3 y3 w1 := by
    have s1 : (w.alloc (Obj.cells #[Value.int IntKind.i64 x1, Value.int IntKind.i64 y1] 22)).heap.size = w.heap.size + 1 := by show (w.heap.push _).size = _; rw [Array.size_push]
    have s2 : ((w.alloc (Obj.cells #[Value.int IntKind.i64 x1, Value.int IntKind.i64 y1] 22)).alloc (Obj.cells #[Value.int IntKind.i64 x2, Value.int IntKind.i64 y2] 22)).heap.size = w.heap.size + 1 + 1 := by show (World.heap _ |>.push _).size = _; rw [Array.size_push, s1]
    have s3 : (((w.alloc (Obj.cells #[Value.int IntKind.i64 x1, Value.int IntKind.i64 y1] 22)).alloc (Obj.cells #[Value.int IntKind.i64 x2, Value.int IntKind.i64 y2] 22)).alloc (Obj.cells #[Value.int IntKind.i64 x3, Value.int IntKind.i64 y3] 22)).heap.size = w.heap.size + 1 + 1 + 1 := by show (World.heap _ |>.push _).size = _; rw [Array.size_push, s2]
    have k1 := heap_alloc_new w (Obj.cells #[Value.int IntKind.i64 x1, Value.int IntKind.i64 y1] 22)
    have k2 := heap_alloc_new (w.alloc (Obj.cells #[Value.int IntKind.i64 x1, Value.int IntKind.i64 y1] 22)) (Obj.cells #[Value.int IntKind.i64 x2, Value.int IntKind.i64 y2] 22)
    have k3 := heap_alloc_new ((w.alloc (Obj.cells #[Value.int IntKind.i64 x1, Value.int IntKind.i64 y1] 22)).alloc (Obj.cells #[Value.int IntKind.i64 x2, Value.int IntKind.i64 y2] 22)) (Obj.cells #[Value.int IntKind.i64 x3, Value.int IntKind.i64 y3] 22)
    rw [s1] at k2
    rw [s2] at k3
    have b2 := below_alloc (Below.refl (w.alloc (Obj.cells #[Value.int IntKind.i64 x1, Value.int IntKind.i64 y1] 22)).heap.size (w.alloc (Obj.cells #[Value.int IntKind.i64 x1, Value.int IntKind.i64 y1] 22))) (Obj.cells #[Value.int IntKind.i64 x2, Value.int IntKind.i64 y2] 22)
    have b3 := below_alloc (Below.refl ((w.alloc (Obj.cells #[Value.int IntKind.i64 x1, Value.int IntKind.i64 y1] 22)).alloc (Obj.cells #[Value.int IntKind.i64 x2, Value.int IntKind.i64 y2] 22)).heap.size ((w.alloc (Obj.cells #[Value.int IntKind.i64 x1, Value.int IntKind.i64 y1] 22)).alloc (Obj.cells #[Value.int IntKind.i64 x2, Value.int IntKind.i64 y2] 22))) (Obj.cells #[Value.int IntKind.i64 x3, Value.int IntKind.i64 y3] 22)
    refine ⟨(hb.block _ (by rw [s3]; omega)).trans ((b3.block _ (by rw [s2]; omega)).trans ((b2.block _ (by rw [s1]; omega)).trans k1)), (hb.block _ (by rw [s3]; omega)).trans ((b3.block _ (by rw [s2]; omega)).trans k2), (hb.block _ (by rw [s3]; omega)).trans k3, HR.out, Below.refl _ _⟩
  have HI := Aside0.mk hI
  have HB1 := Aside0.mk (show Below w.heap.size w w1 from (below_alloc (below_alloc (below_alloc (Below.refl _ _) _) _) _).trans (hb.mono (by have := (below_alloc (below_alloc (below_alloc (Below.refl w.heap.size w) (Obj.cells #[Value.int IntKind.i64 x1, Value.int IntKind.i64 y1] 22)) (Obj.cells #[Value.int IntKind.i64 x2, Value.int IntKind.i64 y2] 22)) (Obj.cells #[Value.int IntKind.i64 x3, Value.int IntKind.i64 y3] 22)).size; exact this)))
  clear hI hb HR
  go_upto_region 3 with fail
  refine regionN (by kernel_rfl) w1 w.heap.size (w.heap.size + 1) (w.heap.size + 1 + 1) x1 y1 x2 y2 x3 y3 _ w1 HI.out rfl rfl rfl rfl ?_
  intro a2 w2 hA h6 h7 h8 hI
  have h6' : Made y1 (slotO dstN a2 6) w2 := h6
  have h7' : Made y2 (slotO dstN a2 7) w2 := h7
  have h8' : Made y3 (slotO dstN a2 8) w2 := h8
  obtain ⟨g1, n1, s1, e1, hn1, hs1, L1⟩ := h6'.lg
  obtain ⟨g2, n2, s2, e2, hn2, hs2, L2⟩ := h7'.lg
  obtain ⟨g3, n3, s3, e3, hn3, hs3, L3⟩ := h8'.lg
  have HB2 := Aside0.mk (below_over HB1.out hI.2.2.2.2)
  have K1 := Aside0.mk L1
  have K2 := Aside0.mk L2
  have K3 := Aside0.mk L3
  have NN := Aside0.mk (And.intro hn1 (And.intro hn2 (And.intro hn3 (And.intro hs1 (And.intro hs2 hs3)))))
  clear h6 h7 h8 h6' h7' h8' hI L1 L2 L3 hn1 hn2 hn3 hs1 hs2 hs3 HB1 HI
  rw [hA.frame hinN]
  clear hA
  simp only [List.range_succ, List.range_zero, List.nil_append, List.cons_append, foldO, dstN, List.getD_cons_zero, List.getD_cons_succ, Act.put]
  generalize slotO dstN a2 0 = z0 at *
  generalize slotO dstN a2 1 = z1 at *
  generalize slotO dstN a2 2 = z2 at *
  generalize slotO dstN a2 3 = z3 at *
  generalize slotO dstN a2 4 = z4 at *
  generalize slotO dstN a2 5 = z5 at *
  generalize slotO dstN a2 6 = z6 at *
  generalize slotO dstN a2 7 = z7 at *
  generalize slotO dstN a2 8 = z8 at *
  clear a2
  subst e1 e2 e3
  obtain ⟨m, hm⟩ : ∃ m, w2 = w2.drewN m := ⟨0, rfl⟩
  rw [hm]
  clear hm
  go_wp2_with fail
  refine (K1.out.1 m).mono ?_
  rintro _ _ ⟨rfl, m1, rfl⟩
  go_wp2_with fail
  refine (K1.out.2.1 m1).mono ?_
  rintro _ _ ⟨rfl, m2, rfl⟩
  go_wp2_with fail
  refine (K2.out.1 m2).mono ?_
  rintro _ _ ⟨rfl, m3, rfl⟩
  go_wp2_with fail
  refine (K2.out.2.1 m3).mono ?_
  rintro _ _ ⟨rfl, m4, rfl⟩
  go_wp2_with fail
  refine (K3.out.1 m4).mono ?_
  rintro _ _ ⟨rfl, m5, rfl⟩
  go_wp2_with fail
  refine (K3.out.2.1 m5).mono ?_
  rintro _ _ ⟨rfl, m6, rfl⟩
  go_wp2_with fail
  refine (K1.out.1 m6).mono ?_
  rintro _ _ ⟨rfl, m7, rfl⟩
  go_wp2_with fail
  refine (K2.out.2.2 m7 (n1 : Int) s1).mono ?_
  rintro _ _ ⟨rfl, m8, rfl⟩
  generalize hxy : (decide (s1 > s2) || (decide (s1 = s2) && decide ((n1 : Int) ≥ (n2 : Int)))) = xy
  have Hxy := Aside0.mk hxy
  clear hxy
  go_wp2_with fail
  refine (K2.out.1 m8).mono ?_
  rintro _ _ ⟨rfl, m9, rfl⟩
  go_wp2_with fail
  refine (K1.out.2.2 m9 (n2 : Int) s2).mono ?_
  rintro _ _ ⟨rfl, m10, rfl⟩
  generalize hyx : (decide (s2 > s1) || (decide (s2 = s1) && decide ((n2 : Int) ≥ (n1 : Int)))) = yx
  have Hyx := Aside0.mk hyx
  clear hyx
  go_wp2_with fail
  refine (K2.out.1 m10).mono ?_
  rintro _ _ ⟨rfl, m11, rfl⟩
  go_wp2_with fail
  refine (K3.out.2.2 m11 (n2 : Int) s2).mono ?_
  rintro _ _ ⟨rfl, m12, rfl⟩
  generalize hyz : (decide (s2 > s3) || (decide (s2 = s3) && decide ((n2 : Int) ≥ (n3 : Int)))) = yz
  have Hyz := Aside0.mk hyz
  clear hyz
  go_wp2_with fail
  refine (K1.out.1 m12).mono ?_
  rintro _ _ ⟨rfl, m13, rfl⟩
  go_wp2_with fail
  refine (K3.out.2.2 m13 (n1 : Int) s1).mono ?_
  rintro _ _ ⟨rfl, m14, rfl⟩
  generalize hxz : (decide (s1 > s3) || (decide (s1 = s3) && decide ((n1 : Int) ≥ (n3 : Int)))) = xz
  have Hxz := Aside0.mk hxz
  clear hxz
  have KX := Aside0.mk (show ∀ m, Calls Try.prog 11 #[.pointer (some ⟨g1, 0, none⟩), .int .i64 n1, .int .i64 s1] (w2.drewN m) (fun e w' => e = .returned (.bool true) ∧ ∃ k, w' = w2.drewN k) from fun m => (K1.out.2.2 m n1 s1).mono (by
    rintro _ _ ⟨rfl, k, rfl⟩
    exact ⟨by simp, k, rfl⟩))
  have FIN := Aside0.mk (show ∀ m, Below w.heap.size w (w2.drewN m) from fun m => pw_below_drewN HB2.out m)
  have ds3 : decide (s3 ≥ 0) = true := decide_eq_true (by have := NN.out; omega)
  have AL := Aside0.mk (And.intro Hxy.out (And.intro Hyx.out (And.intro Hyz.out Hxz.out)))
  clear HB2 Hxy Hyx Hyz Hxz
  by_cases hq : (xy = true ∧ yx = true)
  · obtain ⟨rfl, rfl⟩ := hq
    obtain ⟨e1, e2⟩ : n1 = n2 ∧ s1 = s2 := by
      have := AL.out.1
      have := AL.out.2.1
      simp only [Bool.or_eq_true, Bool.and_eq_true, decide_eq_true_eq] at *
      omega
    subst e1 e2
    cases yz <;> cases xz
    · go_wp2_with fail
      refine (K1.out.1 _).mono ?_
      rintro _ _ ⟨rfl, mm, rfl⟩
      go_wp2_with fail
      refine (K2.out.1 _).mono ?_
      rintro _ _ ⟨rfl, mm, rfl⟩
      go_wp2_with fail
      refine (K1.out.1 _).mono ?_
      rintro _ _ ⟨rfl, mm, rfl⟩
      go_wp2_with fail
      refine (KX.out _).mono ?_
      rintro _ _ ⟨rfl, mm, rfl⟩
      go_wp2_with fail
      go_ret
      exact ⟨rfl, FIN.out _⟩
    · go_wp2_with fail
      refine (K1.out.1 _).mono ?_
      rintro _ _ ⟨rfl, mm, rfl⟩
      go_wp2_with fail
      refine (K2.out.1 _).mono ?_
      rintro _ _ ⟨rfl, mm, rfl⟩
      go_wp2_with fail
      refine (K1.out.1 _).mono ?_
      rintro _ _ ⟨rfl, mm, rfl⟩
      go_wp2_with fail
      refine (KX.out _).mono ?_
      rintro _ _ ⟨rfl, mm, rfl⟩
      go_wp2_with fail
      go_ret
      exact ⟨rfl, FIN.out _⟩
    · exfalso
      have h1 := AL.out.2.2.1
      have h2 := AL.out.2.2.2
      rw [h1] at h2
      exact absurd h2 (by decide)
    · go_wp2_with fail
      refine (K1.out.1 _).mono ?_
      rintro _ _ ⟨rfl, mm, rfl⟩
      go_wp2_with fail
      refine (K2.out.1 _).mono ?_
      rintro _ _ ⟨rfl, mm, rfl⟩
      go_wp2_with fail
      refine (K1.out.1 _).mono ?_
      rintro _ _ ⟨rfl, mm, rfl⟩
      go_wp2_with fail
      refine (KX.out _).mono ?_
      rintro _ _ ⟨rfl, mm, rfl⟩
      go_wp2_with fail
      go_ret
      exact ⟨rfl, FIN.out _⟩
  · have hq2 : xy = true ∨ yx = true := by
      have h1 := AL.out.1
      have h2 := AL.out.2.1
      cases xy
      · cases yx
        · exfalso
          simp only [Bool.or_eq_false_iff, Bool.and_eq_false_iff, decide_eq_false_iff_not] at h1 h2
          omega
        · exact .inr rfl
      · exact .inl rfl
    cases xy <;> cases yx
    · exact absurd hq2 (by decide)
    · clear hq hq2
      cases yz <;> cases xz
      · go_wp2_with fail
        refine (K1.out.1 _).mono ?_
        rintro _ _ ⟨rfl, mm, rfl⟩
        go_wp2_with fail
        refine (KX.out _).mono ?_
        rintro _ _ ⟨rfl, mm, rfl⟩
        go_wp2_with fail
        go_ret
        exact ⟨rfl, FIN.out _⟩
      · go_wp2_with fail
        refine (K1.out.1 _).mono ?_
        rintro _ _ ⟨rfl, mm, rfl⟩
        go_wp2_with fail
        refine (KX.out _).mono ?_
        rintro _ _ ⟨rfl, mm, rfl⟩
        go_wp2_with fail
        go_ret
        exact ⟨rfl, FIN.out _⟩
      · go_wp2_with fail
        refine (K1.out.1 _).mono ?_
        rintro _ _ ⟨rfl, mm, rfl⟩
        go_wp2_with fail
        refine (KX.out _).mono ?_
        rintro _ _ ⟨rfl, mm, rfl⟩
        go_wp2_with fail
        go_ret
        exact ⟨rfl, FIN.out _⟩
      · go_wp2_with fail
        refine (K1.out.1 _).mono ?_
        rintro _ _ ⟨rfl, mm, rfl⟩
        go_wp2_with fail
        refine (KX.out _).mono ?_
        rintro _ _ ⟨rfl, mm, rfl⟩
        go_wp2_with fail
        go_ret
        exact ⟨rfl, FIN.out _⟩
    · clear hq hq2
      cases yz <;> cases xz
      · go_wp2_with fail
        refine (K1.out.1 _).mono ?_
        rintro _ _ ⟨rfl, mm, rfl⟩
        go_wp2_with fail
        refine (KX.out _).mono ?_
        rintro _ _ ⟨rfl, mm, rfl⟩
        go_wp2_with fail
        go_ret
        exact ⟨rfl, FIN.out _⟩
      · go_wp2_with fail
        refine (K1.out.1 _).mono ?_
        rintro _ _ ⟨rfl, mm, rfl⟩
        go_wp2_with fail
        refine (KX.out _).mono ?_
        rintro _ _ ⟨rfl, mm, rfl⟩
        go_wp2_with fail
        go_ret
        exact ⟨rfl, FIN.out _⟩
      · exfalso
        have h1 := AL.out.1
        have h2 := AL.out.2.2.1
        have h3 := AL.out.2.2.2
        simp only [Bool.or_eq_true, Bool.and_eq_true, decide_eq_true_eq, Bool.or_eq_false_iff, Bool.and_eq_false_iff, decide_eq_false_iff_not] at h1 h2 h3
        omega
      · go_wp2_with fail
        refine (K1.out.1 _).mono ?_
        rintro _ _ ⟨rfl, mm, rfl⟩
        go_wp2_with fail
        refine (KX.out _).mono ?_
        rintro _ _ ⟨rfl, mm, rfl⟩
        go_wp2_with fail
        go_ret
        exact ⟨rfl, FIN.out _⟩
    · exact absurd ⟨rfl, rfl⟩ hq
end Go.Proofs.Ytigjfnleinhahaa.PLog
