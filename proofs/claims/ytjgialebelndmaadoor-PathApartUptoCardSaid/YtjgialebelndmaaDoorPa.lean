/- PathApart walked. -/
import Derived.Test.YtjgialebelndmaaDoorLw
import Derived.OwnWalk
import Derived.ChangeKeysEq
namespace Go.Proofs.YtjgialebelndmaaDoor.PH
open Go.RowKit Go.Proofs.YtjgialebelndmaaDoorW.PrintWords Go.Proofs.YtjgialebelndmaaDoorW.PrintLast Go.Proofs.YtjgialebelndmaaDoorW.PrintMore
open Go.Shelf
set_option linter.unusedVariables false
set_option linter.unusedSimpArgs false
set_option maxHeartbeats 4000000
set_option maxRecDepth 100000

open Go.Proofs Go.Lib Go.Proofs.YtjgialebelndmaaDoor.PF Go.Proofs.YtjgialebelndmaaDoor.PG
theorem of_col (c n r : List UInt8) (h : ofL c n = some r) : ∃ q, ofL c [] = some q ∧ ∃ t, r = q ++ t := by
  unfold ofL at h ⊢
  by_cases h0 : c = [] ∧ n = []
  · rw [if_pos h0] at h
    cases h
    exact ⟨[47], by rw [if_pos ⟨h0.1, rfl⟩], [], rfl⟩
  · rw [if_neg h0] at h
    cases hc : fitsL c with
    | false => rw [hc] at h; cases h
    | true =>
      have hne := fits_ne c hc
      rw [hc, if_pos rfl] at h
      rw [if_neg (fun h => hne h.1), if_pos rfl, if_pos rfl]
      refine ⟨_, rfl, ?_⟩
      by_cases hn : n = []
      · rw [if_pos hn] at h
        injection h with h
        exact ⟨[], by rw [← h, List.append_nil]⟩
      · rw [if_neg hn] at h
        cases hf : fitsL n with
        | false => rw [hf] at h; cases h
        | true =>
          rw [hf, if_pos rfl] at h
          injection h with h
          exact ⟨escL n, h.symm⟩
theorem eq_two (x0 x1 y0 y1 : ByteArray) (W : World) : (Op.equalIn 10000 36 (.agg #[.string x0, .string x1]) (.agg #[.string y0, .string y1])).run Tryd.prog W = .ok (x0.toList == y0.toList && x1.toList == y1.toList) W := by
  obtain ⟨i, hi⟩ : ∃ i, Tryd.prog.info? 9 = some i := info_of_underlying Tryd.underlying9
  have hc : Tryd.prog.cellsOf 9 = 1 := by kernel_rfl
  have p0 : ∀ a b : ByteArray, (part 9 #[.string a, .string b] 0).run Tryd.prog W = .ok (.string a) W := fun a b => by
    go_simp
  have p1 : ∀ a b : ByteArray, (part 9 #[.string a, .string b] 1).run Tryd.prog W = .ok (.string b) W := fun a b => by
    go_simp
  rw [show (10000 : Nat) = 9999 + 1 from rfl, run_equalIn_array W 9999 _ _ Tryd.underlying36 hi, hc, show List.range 2 = [0, 1] from rfl]
  simp only [Op.eqItems, Nat.zero_mul, Nat.one_mul, Sem.run_bind, p0, p1, Result.andThen_ok, show (9999 : Nat) = 9998 + 1 from rfl, run_equalIn_string W 9998 9 _ _ Tryd.underlying9]
  cases (x0.toList == y0.toList) with
  | false => rfl
  | true =>
    simp only [Bool.not_true, Bool.false_eq_true, if_false, Sem.run_bind, p1, Result.andThen_ok, run_equalIn_string W 9998 9 _ _ Tryd.underlying9, Bool.true_and]
    cases (x1.toList == y1.toList) <;> rfl
theorem cell_alloc_old (w : World) (o : Obj) {p : Addr} (h : p.block < w.heap.size) : (w.alloc o).cell? p = w.cell? p := by
  obtain ⟨b, k, s⟩ := p
  simp only [World.cell?]
  rw [Lib.alloc_old w o b h]
set_option maxHeartbeats 16000000 in
theorem apart_calls (x0 x1 y0 y1 : ByteArray) (hx0 : x0.size ≤ 1048576) (hx1 : x1.size ≤ 1048576) (hy0 : y0.size ≤ 1048576) (hy1 : y1.size ≤ 1048576) (w : World) (hT : Tabs w) :
    Calls Tryd.prog 5 #[.agg #[.string x0, .string x1], .agg #[.string y0, .string y1]] w fun e w' => e = .returned (.bool true) ∧ Below w.heap.size w w' := by
  have HT := Aside0.mk hT
  have HF0 := Aside0.mk (fun W hW => calepinlaw06_first.calls true W first_is hW)
  have hP : path_Of.f x0 x1 = some (resE (ofL x0.data.toList x1.data.toList)) := by unfold path_Of.f; rw [if_pos ⟨by omega, by omega⟩]
  have hQ : path_Of.f y0 y1 = some (resE (ofL y0.data.toList y1.data.toList)) := by unfold path_Of.f; rw [if_pos ⟨by omega, by omega⟩]
  have hC : path_Of.f x0 ⟨#[]⟩ = some (resE (ofL x0.data.toList [])) := by unfold path_Of.f; rw [if_pos ⟨by omega, by decide⟩]
  clear hT hx0 hx1 hy0 hy1
  cases hp : ofL x0.data.toList x1.data.toList with
  | none =>
    rw [hp] at hP
    have HP := Aside0.mk (fun W hW => path_Of.calls x0 x1 ⟨#[]⟩ 60 W hP hW)
    clear hp hP hC
    obtain ⟨q1, q2, hq⟩ : ∃ q1 q2, path_Of.f y0 y1 = some (q1, q2) := ⟨_, _, hQ⟩
    have HQ := Aside0.mk (fun W hW => path_Of.calls y0 y1 _ _ W hq hW)
    clear hq hQ
    go_enter Tryd.func5, Tryd.ntmps5
    go_wp2_with fail
    have HW := Aside0.mk (below_alloc (below_alloc (Below.refl w.heap.size w) (.cells #[.string x0, .string x1] 36)) (.cells #[.string y0, .string y1] 36))
    have HL := Aside0.mk (show w.heap.size < ((w.alloc (.cells #[.string x0, .string x1] 36)).alloc (.cells #[.string y0, .string y1] 36)).heap.size ∧ w.heap.size + 1 < ((w.alloc (.cells #[.string x0, .string x1] 36)).alloc (.cells #[.string y0, .string y1] 36)).heap.size by simp; omega)
    have C2 := Aside0.mk (show ((w.alloc (.cells #[.string x0, .string x1] 36)).alloc (.cells #[.string y0, .string y1] 36)).cell? ⟨w.heap.size + 1, 0, none⟩ = some (.string y0) from by
      have h := (blk_cell (heap_alloc_new (w.alloc (.cells #[.string x0, .string x1] 36)) (.cells #[.string y0, .string y1] 36)) 0)
      rw [show (w.alloc (.cells #[.string x0, .string x1] 36)).heap.size = w.heap.size + 1 by simp] at h
      exact h.trans rfl)
    have C3 := Aside0.mk (show ((w.alloc (.cells #[.string x0, .string x1] 36)).alloc (.cells #[.string y0, .string y1] 36)).cell? ⟨w.heap.size + 1, 1, none⟩ = some (.string y1) from by
      have h := (blk_cell (heap_alloc_new (w.alloc (.cells #[.string x0, .string x1] 36)) (.cells #[.string y0, .string y1] 36)) 1)
      rw [show (w.alloc (.cells #[.string x0, .string x1] 36)).heap.size = w.heap.size + 1 by simp] at h
      exact h.trans rfl)
    have C0 := Aside0.mk (show ((w.alloc (.cells #[.string x0, .string x1] 36)).alloc (.cells #[.string y0, .string y1] 36)).cell? ⟨w.heap.size, 0, none⟩ = some (.string x0) from (cell_alloc_old _ _ (by simp)).trans ((blk_cell (heap_alloc_new w _) 0).trans rfl))
    have C1 := Aside0.mk (show ((w.alloc (.cells #[.string x0, .string x1] 36)).alloc (.cells #[.string y0, .string y1] 36)).cell? ⟨w.heap.size, 1, none⟩ = some (.string x1) from (cell_alloc_old _ _ (by simp)).trans ((blk_cell (heap_alloc_new w _) 1).trans rfl))
    generalize (w.alloc (.cells #[.string x0, .string x1] 36)).alloc (.cells #[.string y0, .string y1] 36) = w1 at *
    have HV := Aside0.mk (Below.refl w1.heap.size w1)
    refine (HF0.out _ (PF.tabs_below HT.out HW.out)).mono ?_
    rintro _ w2 ⟨rfl, hb⟩
    have HW' := Aside0.mk (HW.out.trans (hb.mono HW.out.size))
    have HV' := Aside0.mk (HV.out.trans (hb.mono HV.out.size))
    clear hb HW HV HF0
    have HW := HW'
    have HV := HV'
    clear HW' HV'
    try clear c0 c1 c2 c3
    have c0 := (HV.out.cell (p := ⟨w.heap.size, 0, none⟩) HL.out.1).trans C0.out
    have c1 := (HV.out.cell (p := ⟨w.heap.size, 1, none⟩) HL.out.1).trans C1.out
    have c2 := (HV.out.cell (p := ⟨w.heap.size + 1, 0, none⟩) HL.out.2).trans C2.out
    have c3 := (HV.out.cell (p := ⟨w.heap.size + 1, 1, none⟩) HL.out.2).trans C3.out
    go_wp2_with fail
    refine (HP.out _ (PF.tabs_below HT.out HW.out)).mono ?_
    rintro _ w3 ⟨rfl, hb⟩
    have HW' := Aside0.mk (HW.out.trans (hb.mono HW.out.size))
    have HV' := Aside0.mk (HV.out.trans (hb.mono HV.out.size))
    clear hb HW HV HP
    have HW := HW'
    have HV := HV'
    clear HW' HV'
    try clear c0 c1 c2 c3
    have c0 := (HV.out.cell (p := ⟨w.heap.size, 0, none⟩) HL.out.1).trans C0.out
    have c1 := (HV.out.cell (p := ⟨w.heap.size, 1, none⟩) HL.out.1).trans C1.out
    have c2 := (HV.out.cell (p := ⟨w.heap.size + 1, 0, none⟩) HL.out.2).trans C2.out
    have c3 := (HV.out.cell (p := ⟨w.heap.size + 1, 1, none⟩) HL.out.2).trans C3.out
    go_wp2_with fail
    refine (HQ.out _ (PF.tabs_below HT.out HW.out)).mono ?_
    rintro _ w4 ⟨rfl, hb⟩
    have HW' := Aside0.mk (HW.out.trans (hb.mono HW.out.size))
    have HV' := Aside0.mk (HV.out.trans (hb.mono HV.out.size))
    clear hb HW HV HQ
    have HW := HW'
    have HV := HV'
    clear HW' HV'
    try clear c0 c1 c2 c3
    have c0 := (HV.out.cell (p := ⟨w.heap.size, 0, none⟩) HL.out.1).trans C0.out
    have c1 := (HV.out.cell (p := ⟨w.heap.size, 1, none⟩) HL.out.1).trans C1.out
    have c2 := (HV.out.cell (p := ⟨w.heap.size + 1, 0, none⟩) HL.out.2).trans C2.out
    have c3 := (HV.out.cell (p := ⟨w.heap.size + 1, 1, none⟩) HL.out.2).trans C3.out
    go_wp2_with fail
    go_ret
    exact ⟨rfl, HW.out⟩
  | some p =>
    rw [hp] at hP
    have HP := Aside0.mk (fun W hW => path_Of.calls x0 x1 (mkB p) 0 W hP hW)
    clear hP
    cases hq : ofL y0.data.toList y1.data.toList with
    | none =>
      rw [hq] at hQ
      have HQ := Aside0.mk (fun W hW => path_Of.calls y0 y1 ⟨#[]⟩ 60 W hQ hW)
      clear hQ hC
      clear hp hq
      go_enter Tryd.func5, Tryd.ntmps5
      go_wp2_with fail
      have HW := Aside0.mk (below_alloc (below_alloc (Below.refl w.heap.size w) (.cells #[.string x0, .string x1] 36)) (.cells #[.string y0, .string y1] 36))
      have HL := Aside0.mk (show w.heap.size < ((w.alloc (.cells #[.string x0, .string x1] 36)).alloc (.cells #[.string y0, .string y1] 36)).heap.size ∧ w.heap.size + 1 < ((w.alloc (.cells #[.string x0, .string x1] 36)).alloc (.cells #[.string y0, .string y1] 36)).heap.size by simp; omega)
      have C2 := Aside0.mk (show ((w.alloc (.cells #[.string x0, .string x1] 36)).alloc (.cells #[.string y0, .string y1] 36)).cell? ⟨w.heap.size + 1, 0, none⟩ = some (.string y0) from by
        have h := (blk_cell (heap_alloc_new (w.alloc (.cells #[.string x0, .string x1] 36)) (.cells #[.string y0, .string y1] 36)) 0)
        rw [show (w.alloc (.cells #[.string x0, .string x1] 36)).heap.size = w.heap.size + 1 by simp] at h
        exact h.trans rfl)
      have C3 := Aside0.mk (show ((w.alloc (.cells #[.string x0, .string x1] 36)).alloc (.cells #[.string y0, .string y1] 36)).cell? ⟨w.heap.size + 1, 1, none⟩ = some (.string y1) from by
        have h := (blk_cell (heap_alloc_new (w.alloc (.cells #[.string x0, .string x1] 36)) (.cells #[.string y0, .string y1] 36)) 1)
        rw [show (w.alloc (.cells #[.string x0, .string x1] 36)).heap.size = w.heap.size + 1 by simp] at h
        exact h.trans rfl)
      have C0 := Aside0.mk (show ((w.alloc (.cells #[.string x0, .string x1] 36)).alloc (.cells #[.string y0, .string y1] 36)).cell? ⟨w.heap.size, 0, none⟩ = some (.string x0) from (cell_alloc_old _ _ (by simp)).trans ((blk_cell (heap_alloc_new w _) 0).trans rfl))
      have C1 := Aside0.mk (show ((w.alloc (.cells #[.string x0, .string x1] 36)).alloc (.cells #[.string y0, .string y1] 36)).cell? ⟨w.heap.size, 1, none⟩ = some (.string x1) from (cell_alloc_old _ _ (by simp)).trans ((blk_cell (heap_alloc_new w _) 1).trans rfl))
      generalize (w.alloc (.cells #[.string x0, .string x1] 36)).alloc (.cells #[.string y0, .string y1] 36) = w1 at *
      have HV := Aside0.mk (Below.refl w1.heap.size w1)
      refine (HF0.out _ (PF.tabs_below HT.out HW.out)).mono ?_
      rintro _ w2 ⟨rfl, hb⟩
      have HW' := Aside0.mk (HW.out.trans (hb.mono HW.out.size))
      have HV' := Aside0.mk (HV.out.trans (hb.mono HV.out.size))
      clear hb HW HV HF0
      have HW := HW'
      have HV := HV'
      clear HW' HV'
      try clear c0 c1 c2 c3
      have c0 := (HV.out.cell (p := ⟨w.heap.size, 0, none⟩) HL.out.1).trans C0.out
      have c1 := (HV.out.cell (p := ⟨w.heap.size, 1, none⟩) HL.out.1).trans C1.out
      have c2 := (HV.out.cell (p := ⟨w.heap.size + 1, 0, none⟩) HL.out.2).trans C2.out
      have c3 := (HV.out.cell (p := ⟨w.heap.size + 1, 1, none⟩) HL.out.2).trans C3.out
      go_wp2_with fail
      refine (HP.out _ (PF.tabs_below HT.out HW.out)).mono ?_
      rintro _ w3 ⟨rfl, hb⟩
      have HW' := Aside0.mk (HW.out.trans (hb.mono HW.out.size))
      have HV' := Aside0.mk (HV.out.trans (hb.mono HV.out.size))
      clear hb HW HV HP
      have HW := HW'
      have HV := HV'
      clear HW' HV'
      try clear c0 c1 c2 c3
      have c0 := (HV.out.cell (p := ⟨w.heap.size, 0, none⟩) HL.out.1).trans C0.out
      have c1 := (HV.out.cell (p := ⟨w.heap.size, 1, none⟩) HL.out.1).trans C1.out
      have c2 := (HV.out.cell (p := ⟨w.heap.size + 1, 0, none⟩) HL.out.2).trans C2.out
      have c3 := (HV.out.cell (p := ⟨w.heap.size + 1, 1, none⟩) HL.out.2).trans C3.out
      go_wp2_with fail
      refine (HQ.out _ (PF.tabs_below HT.out HW.out)).mono ?_
      rintro _ w4 ⟨rfl, hb⟩
      have HW' := Aside0.mk (HW.out.trans (hb.mono HW.out.size))
      have HV' := Aside0.mk (HV.out.trans (hb.mono HV.out.size))
      clear hb HW HV HQ
      have HW := HW'
      have HV := HV'
      clear HW' HV'
      try clear c0 c1 c2 c3
      have c0 := (HV.out.cell (p := ⟨w.heap.size, 0, none⟩) HL.out.1).trans C0.out
      have c1 := (HV.out.cell (p := ⟨w.heap.size, 1, none⟩) HL.out.1).trans C1.out
      have c2 := (HV.out.cell (p := ⟨w.heap.size + 1, 0, none⟩) HL.out.2).trans C2.out
      have c3 := (HV.out.cell (p := ⟨w.heap.size + 1, 1, none⟩) HL.out.2).trans C3.out
      go_wp2_with fail
      go_ret
      exact ⟨rfl, HW.out⟩
    | some q =>
      rw [hq] at hQ
      have HQ := Aside0.mk (fun W hW => path_Of.calls y0 y1 (mkB q) 0 W hQ hW)
      clear hQ
      obtain ⟨cc, hcc, t, ht⟩ := of_col _ _ _ hp
      rw [hcc] at hC
      have HC := Aside0.mk (fun W hW => path_Of.calls x0 ⟨#[]⟩ (mkB cc) 0 W hC hW)
      clear hC
      have hb : ((mkB p).toList == (mkB q).toList) = (x0.toList == y0.toList && x1.toList == y1.toList) := by
        rw [mk_tl, mk_tl, Lib.toList_data x0, Lib.toList_data x1, Lib.toList_data y0, Lib.toList_data y1]
        have h1 := prs_of _ _ _ hp
        have h2 := prs_of _ _ _ hq
        by_cases he : p = q
        · subst he
          rw [h1] at h2
          injection h2 with h2
          injection h2 with h3 h4
          rw [h3, h4]; simp
        · have hn : ¬ (x0.data.toList = y0.data.toList ∧ x1.data.toList = y1.data.toList) := fun h => he (by
            rw [h.1, h.2, hq] at hp
            exact (Option.some.inj hp).symm)
          rw [show (p == q) = false from beq_eq_false_iff_ne.2 he]
          symm
          rw [Bool.and_eq_false_iff]
          by_cases h3 : x0.data.toList = y0.data.toList
          · exact .inr (beq_eq_false_iff_ne.2 (fun h4 => hn ⟨h3, h4⟩))
          · exact .inl (beq_eq_false_iff_ne.2 h3)
      obtain ⟨bb, hbb⟩ : ∃ bb, ((mkB p).toList == (mkB q).toList) = bb := ⟨_, rfl⟩
      have HEB := Aside0.mk (fun W => (eq_two x0 x1 y0 y1 W).trans (by rw [← hb, hbb]))
      have hsz : (mkB cc).size ≤ (mkB p).size := by rw [mkB_size, mkB_size, ht, List.length_append]; omega
      have hex : (mkB p).extract 0 (mkB cc).size = mkB cc := by
        apply ByteArray.ext
        apply Array.toList_inj.1
        rw [mkB_list, ht]
        simp [mkB, mkB_size]
        exact List.take_left' rfl
      clear hp hq hcc ht hb
      generalize mkB p = P at *
      generalize mkB q = Q at *
      generalize mkB cc = C at *
      have z1 : decide (C.size ≤ P.size) = true := decide_eq_true hsz
      have z2 : decide ((C.size : Int) ≤ (P.size : Int)) = true := decide_eq_true (by omega)
      have z3 : (C.size ≤ P.size) = True := eq_true hsz
      have z4 : ((C.size : Int) ≤ (P.size : Int)) = True := eq_true (by omega)
      clear hsz
      obtain ⟨ee, hee⟩ : ∃ ee, x0.toList.isEmpty = ee := ⟨_, rfl⟩
      have hee' : (x0.toList == []) = ee := by rw [← hee]; cases x0.toList <;> rfl
      go_enter Tryd.func5, Tryd.ntmps5
      go_wp2_with fail
      have HW := Aside0.mk (below_alloc (below_alloc (Below.refl w.heap.size w) (.cells #[.string x0, .string x1] 36)) (.cells #[.string y0, .string y1] 36))
      have HL := Aside0.mk (show w.heap.size < ((w.alloc (.cells #[.string x0, .string x1] 36)).alloc (.cells #[.string y0, .string y1] 36)).heap.size ∧ w.heap.size + 1 < ((w.alloc (.cells #[.string x0, .string x1] 36)).alloc (.cells #[.string y0, .string y1] 36)).heap.size by simp; omega)
      have C2 := Aside0.mk (show ((w.alloc (.cells #[.string x0, .string x1] 36)).alloc (.cells #[.string y0, .string y1] 36)).cell? ⟨w.heap.size + 1, 0, none⟩ = some (.string y0) from by
        have h := (blk_cell (heap_alloc_new (w.alloc (.cells #[.string x0, .string x1] 36)) (.cells #[.string y0, .string y1] 36)) 0)
        rw [show (w.alloc (.cells #[.string x0, .string x1] 36)).heap.size = w.heap.size + 1 by simp] at h
        exact h.trans rfl)
      have C3 := Aside0.mk (show ((w.alloc (.cells #[.string x0, .string x1] 36)).alloc (.cells #[.string y0, .string y1] 36)).cell? ⟨w.heap.size + 1, 1, none⟩ = some (.string y1) from by
        have h := (blk_cell (heap_alloc_new (w.alloc (.cells #[.string x0, .string x1] 36)) (.cells #[.string y0, .string y1] 36)) 1)
        rw [show (w.alloc (.cells #[.string x0, .string x1] 36)).heap.size = w.heap.size + 1 by simp] at h
        exact h.trans rfl)
      have C0 := Aside0.mk (show ((w.alloc (.cells #[.string x0, .string x1] 36)).alloc (.cells #[.string y0, .string y1] 36)).cell? ⟨w.heap.size, 0, none⟩ = some (.string x0) from (cell_alloc_old _ _ (by simp)).trans ((blk_cell (heap_alloc_new w _) 0).trans rfl))
      have C1 := Aside0.mk (show ((w.alloc (.cells #[.string x0, .string x1] 36)).alloc (.cells #[.string y0, .string y1] 36)).cell? ⟨w.heap.size, 1, none⟩ = some (.string x1) from (cell_alloc_old _ _ (by simp)).trans ((blk_cell (heap_alloc_new w _) 1).trans rfl))
      generalize (w.alloc (.cells #[.string x0, .string x1] 36)).alloc (.cells #[.string y0, .string y1] 36) = w1 at *
      have HV := Aside0.mk (Below.refl w1.heap.size w1)
      refine (HF0.out _ (PF.tabs_below HT.out HW.out)).mono ?_
      rintro _ w2 ⟨rfl, hb⟩
      have HW' := Aside0.mk (HW.out.trans (hb.mono HW.out.size))
      have HV' := Aside0.mk (HV.out.trans (hb.mono HV.out.size))
      clear hb HW HV HF0
      have HW := HW'
      have HV := HV'
      clear HW' HV'
      try clear c0 c1 c2 c3
      have c0 := (HV.out.cell (p := ⟨w.heap.size, 0, none⟩) HL.out.1).trans C0.out
      have c1 := (HV.out.cell (p := ⟨w.heap.size, 1, none⟩) HL.out.1).trans C1.out
      have c2 := (HV.out.cell (p := ⟨w.heap.size + 1, 0, none⟩) HL.out.2).trans C2.out
      have c3 := (HV.out.cell (p := ⟨w.heap.size + 1, 1, none⟩) HL.out.2).trans C3.out
      go_wp2_with fail
      refine (HP.out _ (PF.tabs_below HT.out HW.out)).mono ?_
      rintro _ w3 ⟨rfl, hb⟩
      have HW' := Aside0.mk (HW.out.trans (hb.mono HW.out.size))
      have HV' := Aside0.mk (HV.out.trans (hb.mono HV.out.size))
      clear hb HW HV HP
      have HW := HW'
      have HV := HV'
      clear HW' HV'
      try clear c0 c1 c2 c3
      have c0 := (HV.out.cell (p := ⟨w.heap.size, 0, none⟩) HL.out.1).trans C0.out
      have c1 := (HV.out.cell (p := ⟨w.heap.size, 1, none⟩) HL.out.1).trans C1.out
      have c2 := (HV.out.cell (p := ⟨w.heap.size + 1, 0, none⟩) HL.out.2).trans C2.out
      have c3 := (HV.out.cell (p := ⟨w.heap.size + 1, 1, none⟩) HL.out.2).trans C3.out
      go_wp2_with fail
      refine (HQ.out _ (PF.tabs_below HT.out HW.out)).mono ?_
      rintro _ w4 ⟨rfl, hb⟩
      have HW' := Aside0.mk (HW.out.trans (hb.mono HW.out.size))
      have HV' := Aside0.mk (HV.out.trans (hb.mono HV.out.size))
      clear hb HW HV HQ
      have HW := HW'
      have HV := HV'
      clear HW' HV'
      try clear c0 c1 c2 c3
      have c0 := (HV.out.cell (p := ⟨w.heap.size, 0, none⟩) HL.out.1).trans C0.out
      have c1 := (HV.out.cell (p := ⟨w.heap.size, 1, none⟩) HL.out.1).trans C1.out
      have c2 := (HV.out.cell (p := ⟨w.heap.size + 1, 0, none⟩) HL.out.2).trans C2.out
      have c3 := (HV.out.cell (p := ⟨w.heap.size + 1, 1, none⟩) HL.out.2).trans C3.out
      go_wp2_with fail
      refine (HC.out _ (PF.tabs_below HT.out HW.out)).mono ?_
      rintro _ w5 ⟨rfl, hb⟩
      have HW' := Aside0.mk (HW.out.trans (hb.mono HW.out.size))
      have HV' := Aside0.mk (HV.out.trans (hb.mono HV.out.size))
      clear hb HW HV HC
      have HW := HW'
      have HV := HV'
      clear HW' HV'
      try clear c0 c1 c2 c3
      have c0 := (HV.out.cell (p := ⟨w.heap.size, 0, none⟩) HL.out.1).trans C0.out
      have c1 := (HV.out.cell (p := ⟨w.heap.size, 1, none⟩) HL.out.1).trans C1.out
      have c2 := (HV.out.cell (p := ⟨w.heap.size + 1, 0, none⟩) HL.out.2).trans C2.out
      have c3 := (HV.out.cell (p := ⟨w.heap.size + 1, 1, none⟩) HL.out.2).trans C3.out
      go_wp2_with fail
      have hEB := HEB.out w5
      rw [hEB]
      simp only [Result.andThen_ok]
      clear hEB
      cases bb <;> cases ee <;> go_wp2_with fail
      all_goals (go_ret; exact ⟨rfl, HW.out⟩)

end Go.Proofs.YtjgialebelndmaaDoor.PH
